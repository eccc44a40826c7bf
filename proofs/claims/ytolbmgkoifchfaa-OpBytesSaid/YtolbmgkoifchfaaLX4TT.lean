/- PRINTED BY wip/tools/mktt.py: what the evaluator knows of the types of the program Ytolbmgkoifchfaa. -/
import Derived.Test.YtolbmgkoifchfaaProg
import Derived.Test.YtolbmgkoifchfaaLA3
namespace Go.Proofs.Ytolbmgkoifchfaa
open Go Go.Lift

def TT : TTab := fun t => match t with
  | 2 => some ⟨(some .i64), none, 1, 8, false, true, [.v (.int .i64 0)], .oth⟩
  | 3 => some ⟨(some .i64), none, 1, 8, false, true, [.v (.int .i64 0)], .oth⟩
  | 4 => some ⟨none, none, 1, 1, false, true, [.v (.bool false)], .bool⟩
  | 5 => some ⟨(some .u8), none, 1, 1, false, true, [.v (.int .u8 0)], .oth⟩
  | 9 => some ⟨none, none, 1, 16, false, true, [.v (.string ⟨#[]⟩)], .str⟩
  | 12 => some ⟨(some .u64), none, 1, 8, false, true, [.v (.int .u64 0)], .oth⟩
  | 21 => some ⟨(some .i32), none, 1, 4, false, true, [.v (.int .i32 0)], .oth⟩
  | 22 => some ⟨none, none, 1, 24, false, false, [.row 5], (.slice 5)⟩
  | 24 => some ⟨none, none, 1, 8, false, false, [.v (.pointer none)], .oth⟩
  | 26 => some ⟨(some .u16), none, 1, 2, false, true, [.v (.int .u16 0)], .oth⟩
  | 27 => some ⟨(some .u32), none, 1, 4, false, true, [.v (.int .u32 0)], .oth⟩
  | 28 => some ⟨none, (some [.int .u16, .int .u32]), 2, 8, true, true, [.v (.int .u16 0), .v (.int .u32 0)], (.struct [(0, 26), (1, 27)])⟩
  | 29 => some ⟨none, (some [.int .u16, .int .u32]), 2, 8, true, true, [.v (.int .u16 0), .v (.int .u32 0)], (.struct [(0, 26), (1, 27)])⟩
  | 30 => some ⟨none, none, 1, 24, false, false, [.row 73], (.slice 73)⟩
  | 31 => some ⟨none, none, 7, 72, true, false, [.v (.int .i64 0), .v (.int .u16 0), .v (.int .u32 0), .v (.int .u32 0), .v (.string ⟨#[]⟩), .row 73, .v (.int .u32 0)], (.struct [(0, 3), (1, 29), (3, 27), (4, 9), (5, 30), (6, 27)])⟩
  | 32 => some ⟨none, none, 7, 72, true, false, [.v (.int .i64 0), .v (.int .u16 0), .v (.int .u32 0), .v (.int .u32 0), .v (.string ⟨#[]⟩), .row 73, .v (.int .u32 0)], (.struct [(0, 3), (1, 29), (3, 27), (4, 9), (5, 30), (6, 27)])⟩
  | 34 => some ⟨none, (some [.int .u16, .int .u32]), 2, 8, true, true, [.v (.int .u16 0), .v (.int .u32 0)], (.struct [(0, 26), (1, 27)])⟩
  | 35 => some ⟨none, none, 1, 24, false, false, [.row 68], (.slice 68)⟩
  | 36 => some ⟨none, none, 7, 72, true, false, [.v (.int .i64 0), .v (.int .u16 0), .v (.int .u32 0), .v (.int .u32 0), .v (.string ⟨#[]⟩), .row 68, .v (.int .u32 0)], (.struct [(0, 3), (1, 34), (3, 27), (4, 9), (5, 35), (6, 27)])⟩
  | 37 => some ⟨none, none, 7, 72, true, false, [.v (.int .i64 0), .v (.int .u16 0), .v (.int .u32 0), .v (.int .u32 0), .v (.string ⟨#[]⟩), .row 68, .v (.int .u32 0)], (.struct [(0, 3), (1, 34), (3, 27), (4, 9), (5, 35), (6, 27)])⟩
  | 41 => some ⟨(some .i64), none, 1, 8, false, true, [.v (.int .i64 0)], .oth⟩
  | 47 => some ⟨none, none, 1, 24, true, false, [.row 5], (.struct [(0, 22)])⟩
  | 48 => some ⟨none, none, 1, 24, true, false, [.row 5], (.struct [(0, 22)])⟩
  | 50 => some ⟨none, none, 1, 8, false, false, [.v (.pointer none)], .oth⟩
  | 54 => some ⟨none, (some [.str, .int .i64, .int .i64]), 3, 32, true, true, [.v (.string ⟨#[]⟩), .v (.int .i64 0), .v (.int .i64 0)], (.struct [(0, 9), (1, 3), (2, 41)])⟩
  | 55 => some ⟨none, (some [.str, .int .i64, .int .i64]), 3, 32, true, true, [.v (.string ⟨#[]⟩), .v (.int .i64 0), .v (.int .i64 0)], (.struct [(0, 9), (1, 3), (2, 41)])⟩
  | 56 => some ⟨(some .u64), none, 1, 8, false, true, [.v (.int .u64 0)], .oth⟩
  | 62 => some ⟨none, none, 3, 24, true, true, [.v (.int .u64 0), .v (.int .u64 0), .v (.int .u64 0)], (.arr 3 56)⟩
  | 67 => some ⟨none, (some [.int .u16, .int .u32, .int .i64]), 3, 16, true, true, [.v (.int .u16 0), .v (.int .u32 0), .v (.int .i64 0)], (.struct [(0, 34), (2, 3)])⟩
  | 68 => some ⟨none, (some [.int .u16, .int .u32, .int .i64]), 3, 16, true, true, [.v (.int .u16 0), .v (.int .u32 0), .v (.int .i64 0)], (.struct [(0, 34), (2, 3)])⟩
  | 72 => some ⟨none, (some [.int .u16, .int .u32, .int .i64]), 3, 16, true, true, [.v (.int .u16 0), .v (.int .u32 0), .v (.int .i64 0)], (.struct [(0, 29), (2, 3)])⟩
  | 73 => some ⟨none, (some [.int .u16, .int .u32, .int .i64]), 3, 16, true, true, [.v (.int .u16 0), .v (.int .u32 0), .v (.int .i64 0)], (.struct [(0, 29), (2, 3)])⟩
  | 81 => some ⟨(some .u64), none, 1, 8, false, true, [.v (.int .u64 0)], .oth⟩
  | 84 => some ⟨none, none, 1, 24, false, false, [.row 34], (.slice 34)⟩
  | 96 => some ⟨none, none, 1, 8, false, false, [.v (.pointer none)], .oth⟩
  | _ => none

@[go_sem] theorem TTe2 : TT 2 = some ⟨(some .i64), none, 1, 8, false, true, [.v (.int .i64 0)], .oth⟩ := rfl
@[go_sem] theorem TTe3 : TT 3 = some ⟨(some .i64), none, 1, 8, false, true, [.v (.int .i64 0)], .oth⟩ := rfl
@[go_sem] theorem TTe4 : TT 4 = some ⟨none, none, 1, 1, false, true, [.v (.bool false)], .bool⟩ := rfl
@[go_sem] theorem TTe5 : TT 5 = some ⟨(some .u8), none, 1, 1, false, true, [.v (.int .u8 0)], .oth⟩ := rfl
@[go_sem] theorem TTe9 : TT 9 = some ⟨none, none, 1, 16, false, true, [.v (.string ⟨#[]⟩)], .str⟩ := rfl
@[go_sem] theorem TTe12 : TT 12 = some ⟨(some .u64), none, 1, 8, false, true, [.v (.int .u64 0)], .oth⟩ := rfl
@[go_sem] theorem TTe21 : TT 21 = some ⟨(some .i32), none, 1, 4, false, true, [.v (.int .i32 0)], .oth⟩ := rfl
@[go_sem] theorem TTe22 : TT 22 = some ⟨none, none, 1, 24, false, false, [.row 5], (.slice 5)⟩ := rfl
@[go_sem] theorem TTe24 : TT 24 = some ⟨none, none, 1, 8, false, false, [.v (.pointer none)], .oth⟩ := rfl
@[go_sem] theorem TTe26 : TT 26 = some ⟨(some .u16), none, 1, 2, false, true, [.v (.int .u16 0)], .oth⟩ := rfl
@[go_sem] theorem TTe27 : TT 27 = some ⟨(some .u32), none, 1, 4, false, true, [.v (.int .u32 0)], .oth⟩ := rfl
@[go_sem] theorem TTe28 : TT 28 = some ⟨none, (some [.int .u16, .int .u32]), 2, 8, true, true, [.v (.int .u16 0), .v (.int .u32 0)], (.struct [(0, 26), (1, 27)])⟩ := rfl
@[go_sem] theorem TTe29 : TT 29 = some ⟨none, (some [.int .u16, .int .u32]), 2, 8, true, true, [.v (.int .u16 0), .v (.int .u32 0)], (.struct [(0, 26), (1, 27)])⟩ := rfl
@[go_sem] theorem TTe30 : TT 30 = some ⟨none, none, 1, 24, false, false, [.row 73], (.slice 73)⟩ := rfl
@[go_sem] theorem TTe31 : TT 31 = some ⟨none, none, 7, 72, true, false, [.v (.int .i64 0), .v (.int .u16 0), .v (.int .u32 0), .v (.int .u32 0), .v (.string ⟨#[]⟩), .row 73, .v (.int .u32 0)], (.struct [(0, 3), (1, 29), (3, 27), (4, 9), (5, 30), (6, 27)])⟩ := rfl
@[go_sem] theorem TTe32 : TT 32 = some ⟨none, none, 7, 72, true, false, [.v (.int .i64 0), .v (.int .u16 0), .v (.int .u32 0), .v (.int .u32 0), .v (.string ⟨#[]⟩), .row 73, .v (.int .u32 0)], (.struct [(0, 3), (1, 29), (3, 27), (4, 9), (5, 30), (6, 27)])⟩ := rfl
@[go_sem] theorem TTe34 : TT 34 = some ⟨none, (some [.int .u16, .int .u32]), 2, 8, true, true, [.v (.int .u16 0), .v (.int .u32 0)], (.struct [(0, 26), (1, 27)])⟩ := rfl
@[go_sem] theorem TTe35 : TT 35 = some ⟨none, none, 1, 24, false, false, [.row 68], (.slice 68)⟩ := rfl
@[go_sem] theorem TTe36 : TT 36 = some ⟨none, none, 7, 72, true, false, [.v (.int .i64 0), .v (.int .u16 0), .v (.int .u32 0), .v (.int .u32 0), .v (.string ⟨#[]⟩), .row 68, .v (.int .u32 0)], (.struct [(0, 3), (1, 34), (3, 27), (4, 9), (5, 35), (6, 27)])⟩ := rfl
@[go_sem] theorem TTe37 : TT 37 = some ⟨none, none, 7, 72, true, false, [.v (.int .i64 0), .v (.int .u16 0), .v (.int .u32 0), .v (.int .u32 0), .v (.string ⟨#[]⟩), .row 68, .v (.int .u32 0)], (.struct [(0, 3), (1, 34), (3, 27), (4, 9), (5, 35), (6, 27)])⟩ := rfl
@[go_sem] theorem TTe41 : TT 41 = some ⟨(some .i64), none, 1, 8, false, true, [.v (.int .i64 0)], .oth⟩ := rfl
@[go_sem] theorem TTe47 : TT 47 = some ⟨none, none, 1, 24, true, false, [.row 5], (.struct [(0, 22)])⟩ := rfl
@[go_sem] theorem TTe48 : TT 48 = some ⟨none, none, 1, 24, true, false, [.row 5], (.struct [(0, 22)])⟩ := rfl
@[go_sem] theorem TTe50 : TT 50 = some ⟨none, none, 1, 8, false, false, [.v (.pointer none)], .oth⟩ := rfl
@[go_sem] theorem TTe54 : TT 54 = some ⟨none, (some [.str, .int .i64, .int .i64]), 3, 32, true, true, [.v (.string ⟨#[]⟩), .v (.int .i64 0), .v (.int .i64 0)], (.struct [(0, 9), (1, 3), (2, 41)])⟩ := rfl
@[go_sem] theorem TTe55 : TT 55 = some ⟨none, (some [.str, .int .i64, .int .i64]), 3, 32, true, true, [.v (.string ⟨#[]⟩), .v (.int .i64 0), .v (.int .i64 0)], (.struct [(0, 9), (1, 3), (2, 41)])⟩ := rfl
@[go_sem] theorem TTe56 : TT 56 = some ⟨(some .u64), none, 1, 8, false, true, [.v (.int .u64 0)], .oth⟩ := rfl
@[go_sem] theorem TTe62 : TT 62 = some ⟨none, none, 3, 24, true, true, [.v (.int .u64 0), .v (.int .u64 0), .v (.int .u64 0)], (.arr 3 56)⟩ := rfl
@[go_sem] theorem TTe67 : TT 67 = some ⟨none, (some [.int .u16, .int .u32, .int .i64]), 3, 16, true, true, [.v (.int .u16 0), .v (.int .u32 0), .v (.int .i64 0)], (.struct [(0, 34), (2, 3)])⟩ := rfl
@[go_sem] theorem TTe68 : TT 68 = some ⟨none, (some [.int .u16, .int .u32, .int .i64]), 3, 16, true, true, [.v (.int .u16 0), .v (.int .u32 0), .v (.int .i64 0)], (.struct [(0, 34), (2, 3)])⟩ := rfl
@[go_sem] theorem TTe72 : TT 72 = some ⟨none, (some [.int .u16, .int .u32, .int .i64]), 3, 16, true, true, [.v (.int .u16 0), .v (.int .u32 0), .v (.int .i64 0)], (.struct [(0, 29), (2, 3)])⟩ := rfl
@[go_sem] theorem TTe73 : TT 73 = some ⟨none, (some [.int .u16, .int .u32, .int .i64]), 3, 16, true, true, [.v (.int .u16 0), .v (.int .u32 0), .v (.int .i64 0)], (.struct [(0, 29), (2, 3)])⟩ := rfl
@[go_sem] theorem TTe81 : TT 81 = some ⟨(some .u64), none, 1, 8, false, true, [.v (.int .u64 0)], .oth⟩ := rfl
@[go_sem] theorem TTe84 : TT 84 = some ⟨none, none, 1, 24, false, false, [.row 34], (.slice 34)⟩ := rfl
@[go_sem] theorem TTe96 : TT 96 = some ⟨none, none, 1, 8, false, false, [.v (.pointer none)], .oth⟩ := rfl
theorem TTe : True := trivial
theorem tt2 : TIok Try.prog 2 ⟨(some .i64), none, 1, 8, false, true, [.v (.int .i64 0)], .oth⟩ :=
  TIok.mk' (z := ((.int .i64 0))) (by kernel_rfl) (by simp [zOk, Value.cells, Value.oneCell']) rfl (by decide) Try.underlying2 trivial rfl (fun k h => by cases h; exact Try.underlying2) (fun ks h => by cases h)
theorem tt3 : TIok Try.prog 3 ⟨(some .i64), none, 1, 8, false, true, [.v (.int .i64 0)], .oth⟩ :=
  TIok.mk' (z := ((.int .i64 0))) (by kernel_rfl) (by simp [zOk, Value.cells, Value.oneCell']) rfl (by decide) Try.underlying3 trivial rfl (fun k h => by cases h; exact Try.underlying3) (fun ks h => by cases h)
theorem tt4 : TIok Try.prog 4 ⟨none, none, 1, 1, false, true, [.v (.bool false)], .bool⟩ :=
  TIok.mk' (z := ((.bool false))) (by kernel_rfl) (by simp [zOk, Value.cells, Value.oneCell']) rfl (by decide) Try.underlying4 rfl rfl (fun k h => by cases h) (fun ks h => by cases h)
theorem tt5 : TIok Try.prog 5 ⟨(some .u8), none, 1, 1, false, true, [.v (.int .u8 0)], .oth⟩ :=
  TIok.mk' (z := ((.int .u8 0))) (by kernel_rfl) (by simp [zOk, Value.cells, Value.oneCell']) rfl (by decide) Try.underlying5 trivial rfl (fun k h => by cases h; exact Try.underlying5) (fun ks h => by cases h)
theorem tt9 : TIok Try.prog 9 ⟨none, none, 1, 16, false, true, [.v (.string ⟨#[]⟩)], .str⟩ :=
  TIok.mk' (z := ((.string ⟨#[]⟩))) (by kernel_rfl) (by simp [zOk, Value.cells, Value.oneCell']) rfl (by decide) Try.underlying9 rfl rfl (fun k h => by cases h) (fun ks h => by cases h)
theorem tt12 : TIok Try.prog 12 ⟨(some .u64), none, 1, 8, false, true, [.v (.int .u64 0)], .oth⟩ :=
  TIok.mk' (z := ((.int .u64 0))) (by kernel_rfl) (by simp [zOk, Value.cells, Value.oneCell']) rfl (by decide) Try.underlying12 trivial rfl (fun k h => by cases h; exact Try.underlying12) (fun ks h => by cases h)
theorem tt21 : TIok Try.prog 21 ⟨(some .i32), none, 1, 4, false, true, [.v (.int .i32 0)], .oth⟩ :=
  TIok.mk' (z := ((.int .i32 0))) (by kernel_rfl) (by simp [zOk, Value.cells, Value.oneCell']) rfl (by decide) Try.underlying21 trivial rfl (fun k h => by cases h; exact Try.underlying21) (fun ks h => by cases h)
theorem tt22 : TIok Try.prog 22 ⟨none, none, 1, 24, false, false, [.row 5], (.slice 5)⟩ :=
  TIok.mk' (z := ((.slice none 0 0))) (by kernel_rfl) (by simp [zOk, Value.cells, Value.oneCell']) rfl (by decide) Try.underlying22 rfl rfl (fun k h => by cases h) (fun ks h => by cases h)
theorem tt24 : TIok Try.prog 24 ⟨none, none, 1, 8, false, false, [.v (.pointer none)], .oth⟩ :=
  TIok.mk' (z := ((.pointer none))) (by kernel_rfl) (by simp [zOk, Value.cells, Value.oneCell']) rfl (by decide) Try.underlying24 trivial rfl (fun k h => by cases h) (fun ks h => by cases h)
theorem tt26 : TIok Try.prog 26 ⟨(some .u16), none, 1, 2, false, true, [.v (.int .u16 0)], .oth⟩ :=
  TIok.mk' (z := ((.int .u16 0))) (by kernel_rfl) (by simp [zOk, Value.cells, Value.oneCell']) rfl (by decide) Try.underlying26 trivial rfl (fun k h => by cases h; exact Try.underlying26) (fun ks h => by cases h)
theorem tt27 : TIok Try.prog 27 ⟨(some .u32), none, 1, 4, false, true, [.v (.int .u32 0)], .oth⟩ :=
  TIok.mk' (z := ((.int .u32 0))) (by kernel_rfl) (by simp [zOk, Value.cells, Value.oneCell']) rfl (by decide) Try.underlying27 trivial rfl (fun k h => by cases h; exact Try.underlying27) (fun ks h => by cases h)
theorem tt28_eq : EqTy Try.prog 2 28 [.int .u16, .int .u32] :=
  eqTy_struct Try.underlying28 (by kernel_rfl) (.one rfl rfl Try.underlying26 rfl (scEq_int 0 Try.underlying26) (.one rfl rfl Try.underlying27 rfl (scEq_int 0 Try.underlying27) .nil))
theorem tt28 : TIok Try.prog 28 ⟨none, (some [.int .u16, .int .u32]), 2, 8, true, true, [.v (.int .u16 0), .v (.int .u32 0)], (.struct [(0, 26), (1, 27)])⟩ :=
  TIok.mk' (z := (.agg #[(.int .u16 0), (.int .u32 0)])) (by kernel_rfl) (by simp [zOk, Value.cells, Value.oneCell']) rfl (by decide) Try.underlying28 ⟨_, rfl, rfl⟩ rfl (fun k h => by cases h) (eqk_flat (by kernel_rfl) (by decide) tt28_eq)
theorem tt29_eq : EqTy Try.prog 2 29 [.int .u16, .int .u32] :=
  eqTy_struct Try.underlying29 (by kernel_rfl) (.one rfl rfl Try.underlying26 rfl (scEq_int 0 Try.underlying26) (.one rfl rfl Try.underlying27 rfl (scEq_int 0 Try.underlying27) .nil))
theorem tt29 : TIok Try.prog 29 ⟨none, (some [.int .u16, .int .u32]), 2, 8, true, true, [.v (.int .u16 0), .v (.int .u32 0)], (.struct [(0, 26), (1, 27)])⟩ :=
  TIok.mk' (z := (.agg #[(.int .u16 0), (.int .u32 0)])) (by kernel_rfl) (by simp [zOk, Value.cells, Value.oneCell']) rfl (by decide) Try.underlying29 ⟨_, rfl, rfl⟩ rfl (fun k h => by cases h) (eqk_flat (by kernel_rfl) (by decide) tt29_eq)
theorem tt30 : TIok Try.prog 30 ⟨none, none, 1, 24, false, false, [.row 73], (.slice 73)⟩ :=
  TIok.mk' (z := ((.slice none 0 0))) (by kernel_rfl) (by simp [zOk, Value.cells, Value.oneCell']) rfl (by decide) Try.underlying30 rfl rfl (fun k h => by cases h) (fun ks h => by cases h)
theorem tt31 : TIok Try.prog 31 ⟨none, none, 7, 72, true, false, [.v (.int .i64 0), .v (.int .u16 0), .v (.int .u32 0), .v (.int .u32 0), .v (.string ⟨#[]⟩), .row 73, .v (.int .u32 0)], (.struct [(0, 3), (1, 29), (3, 27), (4, 9), (5, 30), (6, 27)])⟩ :=
  TIok.mk' (z := (.agg #[(.int .i64 0), (.int .u16 0), (.int .u32 0), (.int .u32 0), (.string ⟨#[]⟩), (.slice none 0 0), (.int .u32 0)])) (by kernel_rfl) (by simp [zOk, Value.cells, Value.oneCell']) rfl (by decide) Try.underlying31 ⟨_, rfl, rfl⟩ rfl (fun k h => by cases h) (fun ks h => by cases h)
theorem tt32 : TIok Try.prog 32 ⟨none, none, 7, 72, true, false, [.v (.int .i64 0), .v (.int .u16 0), .v (.int .u32 0), .v (.int .u32 0), .v (.string ⟨#[]⟩), .row 73, .v (.int .u32 0)], (.struct [(0, 3), (1, 29), (3, 27), (4, 9), (5, 30), (6, 27)])⟩ :=
  TIok.mk' (z := (.agg #[(.int .i64 0), (.int .u16 0), (.int .u32 0), (.int .u32 0), (.string ⟨#[]⟩), (.slice none 0 0), (.int .u32 0)])) (by kernel_rfl) (by simp [zOk, Value.cells, Value.oneCell']) rfl (by decide) Try.underlying32 ⟨_, rfl, rfl⟩ rfl (fun k h => by cases h) (fun ks h => by cases h)
theorem tt34_eq : EqTy Try.prog 2 34 [.int .u16, .int .u32] :=
  eqTy_struct Try.underlying34 (by kernel_rfl) (.one rfl rfl Try.underlying26 rfl (scEq_int 0 Try.underlying26) (.one rfl rfl Try.underlying27 rfl (scEq_int 0 Try.underlying27) .nil))
theorem tt34 : TIok Try.prog 34 ⟨none, (some [.int .u16, .int .u32]), 2, 8, true, true, [.v (.int .u16 0), .v (.int .u32 0)], (.struct [(0, 26), (1, 27)])⟩ :=
  TIok.mk' (z := (.agg #[(.int .u16 0), (.int .u32 0)])) (by kernel_rfl) (by simp [zOk, Value.cells, Value.oneCell']) rfl (by decide) Try.underlying34 ⟨_, rfl, rfl⟩ rfl (fun k h => by cases h) (eqk_flat (by kernel_rfl) (by decide) tt34_eq)
theorem tt35 : TIok Try.prog 35 ⟨none, none, 1, 24, false, false, [.row 68], (.slice 68)⟩ :=
  TIok.mk' (z := ((.slice none 0 0))) (by kernel_rfl) (by simp [zOk, Value.cells, Value.oneCell']) rfl (by decide) Try.underlying35 rfl rfl (fun k h => by cases h) (fun ks h => by cases h)
theorem tt36 : TIok Try.prog 36 ⟨none, none, 7, 72, true, false, [.v (.int .i64 0), .v (.int .u16 0), .v (.int .u32 0), .v (.int .u32 0), .v (.string ⟨#[]⟩), .row 68, .v (.int .u32 0)], (.struct [(0, 3), (1, 34), (3, 27), (4, 9), (5, 35), (6, 27)])⟩ :=
  TIok.mk' (z := (.agg #[(.int .i64 0), (.int .u16 0), (.int .u32 0), (.int .u32 0), (.string ⟨#[]⟩), (.slice none 0 0), (.int .u32 0)])) (by kernel_rfl) (by simp [zOk, Value.cells, Value.oneCell']) rfl (by decide) Try.underlying36 ⟨_, rfl, rfl⟩ rfl (fun k h => by cases h) (fun ks h => by cases h)
theorem tt37 : TIok Try.prog 37 ⟨none, none, 7, 72, true, false, [.v (.int .i64 0), .v (.int .u16 0), .v (.int .u32 0), .v (.int .u32 0), .v (.string ⟨#[]⟩), .row 68, .v (.int .u32 0)], (.struct [(0, 3), (1, 34), (3, 27), (4, 9), (5, 35), (6, 27)])⟩ :=
  TIok.mk' (z := (.agg #[(.int .i64 0), (.int .u16 0), (.int .u32 0), (.int .u32 0), (.string ⟨#[]⟩), (.slice none 0 0), (.int .u32 0)])) (by kernel_rfl) (by simp [zOk, Value.cells, Value.oneCell']) rfl (by decide) Try.underlying37 ⟨_, rfl, rfl⟩ rfl (fun k h => by cases h) (fun ks h => by cases h)
theorem tt41 : TIok Try.prog 41 ⟨(some .i64), none, 1, 8, false, true, [.v (.int .i64 0)], .oth⟩ :=
  TIok.mk' (z := ((.int .i64 0))) (by kernel_rfl) (by simp [zOk, Value.cells, Value.oneCell']) rfl (by decide) Try.underlying41 trivial rfl (fun k h => by cases h; exact Try.underlying41) (fun ks h => by cases h)
theorem tt47 : TIok Try.prog 47 ⟨none, none, 1, 24, true, false, [.row 5], (.struct [(0, 22)])⟩ :=
  TIok.mk' (z := (.agg #[(.slice none 0 0)])) (by kernel_rfl) (by simp [zOk, Value.cells, Value.oneCell']) rfl (by decide) Try.underlying47 ⟨_, rfl, rfl⟩ rfl (fun k h => by cases h) (fun ks h => by cases h)
theorem tt48 : TIok Try.prog 48 ⟨none, none, 1, 24, true, false, [.row 5], (.struct [(0, 22)])⟩ :=
  TIok.mk' (z := (.agg #[(.slice none 0 0)])) (by kernel_rfl) (by simp [zOk, Value.cells, Value.oneCell']) rfl (by decide) Try.underlying48 ⟨_, rfl, rfl⟩ rfl (fun k h => by cases h) (fun ks h => by cases h)
theorem tt50 : TIok Try.prog 50 ⟨none, none, 1, 8, false, false, [.v (.pointer none)], .oth⟩ :=
  TIok.mk' (z := ((.pointer none))) (by kernel_rfl) (by simp [zOk, Value.cells, Value.oneCell']) rfl (by decide) Try.underlying50 trivial rfl (fun k h => by cases h) (fun ks h => by cases h)
theorem tt54_eq : EqTy Try.prog 2 54 [.str, .int .i64, .int .i64] :=
  eqTy_struct Try.underlying54 (by kernel_rfl) (.one rfl rfl Try.underlying9 rfl (scEq_str 0 Try.underlying9) (.one rfl rfl Try.underlying3 rfl (scEq_int 0 Try.underlying3) (.one rfl rfl Try.underlying41 rfl (scEq_int 0 Try.underlying41) .nil)))
theorem tt54 : TIok Try.prog 54 ⟨none, (some [.str, .int .i64, .int .i64]), 3, 32, true, true, [.v (.string ⟨#[]⟩), .v (.int .i64 0), .v (.int .i64 0)], (.struct [(0, 9), (1, 3), (2, 41)])⟩ :=
  TIok.mk' (z := (.agg #[(.string ⟨#[]⟩), (.int .i64 0), (.int .i64 0)])) (by kernel_rfl) (by simp [zOk, Value.cells, Value.oneCell']) rfl (by decide) Try.underlying54 ⟨_, rfl, rfl⟩ rfl (fun k h => by cases h) (eqk_flat (by kernel_rfl) (by decide) tt54_eq)
theorem tt55_eq : EqTy Try.prog 2 55 [.str, .int .i64, .int .i64] :=
  eqTy_struct Try.underlying55 (by kernel_rfl) (.one rfl rfl Try.underlying9 rfl (scEq_str 0 Try.underlying9) (.one rfl rfl Try.underlying3 rfl (scEq_int 0 Try.underlying3) (.one rfl rfl Try.underlying41 rfl (scEq_int 0 Try.underlying41) .nil)))
theorem tt55 : TIok Try.prog 55 ⟨none, (some [.str, .int .i64, .int .i64]), 3, 32, true, true, [.v (.string ⟨#[]⟩), .v (.int .i64 0), .v (.int .i64 0)], (.struct [(0, 9), (1, 3), (2, 41)])⟩ :=
  TIok.mk' (z := (.agg #[(.string ⟨#[]⟩), (.int .i64 0), (.int .i64 0)])) (by kernel_rfl) (by simp [zOk, Value.cells, Value.oneCell']) rfl (by decide) Try.underlying55 ⟨_, rfl, rfl⟩ rfl (fun k h => by cases h) (eqk_flat (by kernel_rfl) (by decide) tt55_eq)
theorem tt56 : TIok Try.prog 56 ⟨(some .u64), none, 1, 8, false, true, [.v (.int .u64 0)], .oth⟩ :=
  TIok.mk' (z := ((.int .u64 0))) (by kernel_rfl) (by simp [zOk, Value.cells, Value.oneCell']) rfl (by decide) Try.underlying56 trivial rfl (fun k h => by cases h; exact Try.underlying56) (fun ks h => by cases h)
theorem tt62 : TIok Try.prog 62 ⟨none, none, 3, 24, true, true, [.v (.int .u64 0), .v (.int .u64 0), .v (.int .u64 0)], (.arr 3 56)⟩ :=
  TIok.mk' (z := (.agg #[(.int .u64 0), (.int .u64 0), (.int .u64 0)])) (by kernel_rfl) (by simp [zOk, Value.cells, Value.oneCell']) rfl (by decide) Try.underlying62 rfl rfl (fun k h => by cases h) (fun ks h => by cases h)
theorem tt67_eq : EqTy Try.prog 3 67 [.int .u16, .int .u32, .int .i64] :=
  eqTy_struct Try.underlying67 (by kernel_rfl) (.sub (ks1 := [.int .u16, .int .u32]) (ks := [.int .i64]) rfl rfl Try.underlying34 (by kernel_rfl) (tt34_eq.up (by decide)) (.one rfl rfl Try.underlying3 rfl (scEq_int 1 Try.underlying3) .nil))
theorem tt67 : TIok Try.prog 67 ⟨none, (some [.int .u16, .int .u32, .int .i64]), 3, 16, true, true, [.v (.int .u16 0), .v (.int .u32 0), .v (.int .i64 0)], (.struct [(0, 34), (2, 3)])⟩ :=
  TIok.mk' (z := (.agg #[(.int .u16 0), (.int .u32 0), (.int .i64 0)])) (by kernel_rfl) (by simp [zOk, Value.cells, Value.oneCell']) rfl (by decide) Try.underlying67 ⟨_, rfl, rfl⟩ rfl (fun k h => by cases h) (eqk_flat (by kernel_rfl) (by decide) tt67_eq)
theorem tt68_eq : EqTy Try.prog 3 68 [.int .u16, .int .u32, .int .i64] :=
  eqTy_struct Try.underlying68 (by kernel_rfl) (.sub (ks1 := [.int .u16, .int .u32]) (ks := [.int .i64]) rfl rfl Try.underlying34 (by kernel_rfl) (tt34_eq.up (by decide)) (.one rfl rfl Try.underlying3 rfl (scEq_int 1 Try.underlying3) .nil))
theorem tt68 : TIok Try.prog 68 ⟨none, (some [.int .u16, .int .u32, .int .i64]), 3, 16, true, true, [.v (.int .u16 0), .v (.int .u32 0), .v (.int .i64 0)], (.struct [(0, 34), (2, 3)])⟩ :=
  TIok.mk' (z := (.agg #[(.int .u16 0), (.int .u32 0), (.int .i64 0)])) (by kernel_rfl) (by simp [zOk, Value.cells, Value.oneCell']) rfl (by decide) Try.underlying68 ⟨_, rfl, rfl⟩ rfl (fun k h => by cases h) (eqk_flat (by kernel_rfl) (by decide) tt68_eq)
theorem tt72_eq : EqTy Try.prog 3 72 [.int .u16, .int .u32, .int .i64] :=
  eqTy_struct Try.underlying72 (by kernel_rfl) (.sub (ks1 := [.int .u16, .int .u32]) (ks := [.int .i64]) rfl rfl Try.underlying29 (by kernel_rfl) (tt29_eq.up (by decide)) (.one rfl rfl Try.underlying3 rfl (scEq_int 1 Try.underlying3) .nil))
theorem tt72 : TIok Try.prog 72 ⟨none, (some [.int .u16, .int .u32, .int .i64]), 3, 16, true, true, [.v (.int .u16 0), .v (.int .u32 0), .v (.int .i64 0)], (.struct [(0, 29), (2, 3)])⟩ :=
  TIok.mk' (z := (.agg #[(.int .u16 0), (.int .u32 0), (.int .i64 0)])) (by kernel_rfl) (by simp [zOk, Value.cells, Value.oneCell']) rfl (by decide) Try.underlying72 ⟨_, rfl, rfl⟩ rfl (fun k h => by cases h) (eqk_flat (by kernel_rfl) (by decide) tt72_eq)
theorem tt73_eq : EqTy Try.prog 3 73 [.int .u16, .int .u32, .int .i64] :=
  eqTy_struct Try.underlying73 (by kernel_rfl) (.sub (ks1 := [.int .u16, .int .u32]) (ks := [.int .i64]) rfl rfl Try.underlying29 (by kernel_rfl) (tt29_eq.up (by decide)) (.one rfl rfl Try.underlying3 rfl (scEq_int 1 Try.underlying3) .nil))
theorem tt73 : TIok Try.prog 73 ⟨none, (some [.int .u16, .int .u32, .int .i64]), 3, 16, true, true, [.v (.int .u16 0), .v (.int .u32 0), .v (.int .i64 0)], (.struct [(0, 29), (2, 3)])⟩ :=
  TIok.mk' (z := (.agg #[(.int .u16 0), (.int .u32 0), (.int .i64 0)])) (by kernel_rfl) (by simp [zOk, Value.cells, Value.oneCell']) rfl (by decide) Try.underlying73 ⟨_, rfl, rfl⟩ rfl (fun k h => by cases h) (eqk_flat (by kernel_rfl) (by decide) tt73_eq)
theorem tt81 : TIok Try.prog 81 ⟨(some .u64), none, 1, 8, false, true, [.v (.int .u64 0)], .oth⟩ :=
  TIok.mk' (z := ((.int .u64 0))) (by kernel_rfl) (by simp [zOk, Value.cells, Value.oneCell']) rfl (by decide) Try.underlying81 trivial rfl (fun k h => by cases h; exact Try.underlying81) (fun ks h => by cases h)
theorem tt84 : TIok Try.prog 84 ⟨none, none, 1, 24, false, false, [.row 34], (.slice 34)⟩ :=
  TIok.mk' (z := ((.slice none 0 0))) (by kernel_rfl) (by simp [zOk, Value.cells, Value.oneCell']) rfl (by decide) Try.underlying84 rfl rfl (fun k h => by cases h) (fun ks h => by cases h)
theorem tt96 : TIok Try.prog 96 ⟨none, none, 1, 8, false, false, [.v (.pointer none)], .oth⟩ :=
  TIok.mk' (z := ((.pointer none))) (by kernel_rfl) (by simp [zOk, Value.cells, Value.oneCell']) rfl (by decide) Try.underlying96 trivial rfl (fun k h => by cases h) (fun ks h => by cases h)
theorem ttok : TTok Try.prog TT := by
  intro t i h
  unfold TT at h
  split at h <;> first | (cases h; done) | (cases h; first | exact tt2 | exact tt3 | exact tt4 | exact tt5 | exact tt9 | exact tt12 | exact tt21 | exact tt22 | exact tt24 | exact tt26 | exact tt27 | exact tt28 | exact tt29 | exact tt30 | exact tt31 | exact tt32 | exact tt34 | exact tt35 | exact tt36 | exact tt37 | exact tt41 | exact tt47 | exact tt48 | exact tt50 | exact tt54 | exact tt55 | exact tt56 | exact tt62 | exact tt67 | exact tt68 | exact tt72 | exact tt73 | exact tt81 | exact tt84 | exact tt96)
theorem mixed : Try.prog.follows .mixedOrders = true := by kernel_rfl
theorem ent3 : Ent Try.prog 3 := ⟨_, Try.func3, by kernel_rfl, rfl⟩
theorem ent4 : Ent Try.prog 4 := ⟨_, Try.func4, by kernel_rfl, rfl⟩
theorem ent5 : Ent Try.prog 5 := ⟨_, Try.func5, by kernel_rfl, rfl⟩
theorem ent6 : Ent Try.prog 6 := ⟨_, Try.func6, by kernel_rfl, rfl⟩
theorem ent7 : Ent Try.prog 7 := ⟨_, Try.func7, by kernel_rfl, rfl⟩
theorem ent8 : Ent Try.prog 8 := ⟨_, Try.func8, by kernel_rfl, rfl⟩
theorem ent9 : Ent Try.prog 9 := ⟨_, Try.func9, by kernel_rfl, rfl⟩
theorem ent10 : Ent Try.prog 10 := ⟨_, Try.func10, by kernel_rfl, rfl⟩
theorem ent11 : Ent Try.prog 11 := ⟨_, Try.func11, by kernel_rfl, rfl⟩
theorem ent12 : Ent Try.prog 12 := ⟨_, Try.func12, by kernel_rfl, rfl⟩
theorem ent13 : Ent Try.prog 13 := ⟨_, Try.func13, by kernel_rfl, rfl⟩
theorem ent14 : Ent Try.prog 14 := ⟨_, Try.func14, by kernel_rfl, rfl⟩
theorem ent15 : Ent Try.prog 15 := ⟨_, Try.func15, by kernel_rfl, rfl⟩
theorem ent16 : Ent Try.prog 16 := ⟨_, Try.func16, by kernel_rfl, rfl⟩
theorem ent17 : Ent Try.prog 17 := ⟨_, Try.func17, by kernel_rfl, rfl⟩
theorem ent18 : Ent Try.prog 18 := ⟨_, Try.func18, by kernel_rfl, rfl⟩
theorem ent19 : Ent Try.prog 19 := ⟨_, Try.func19, by kernel_rfl, rfl⟩
theorem ent20 : Ent Try.prog 20 := ⟨_, Try.func20, by kernel_rfl, rfl⟩
theorem ent21 : Ent Try.prog 21 := ⟨_, Try.func21, by kernel_rfl, rfl⟩
theorem ent22 : Ent Try.prog 22 := ⟨_, Try.func22, by kernel_rfl, rfl⟩
theorem ent23 : Ent Try.prog 23 := ⟨_, Try.func23, by kernel_rfl, rfl⟩
theorem ent24 : Ent Try.prog 24 := ⟨_, Try.func24, by kernel_rfl, rfl⟩
theorem ent25 : Ent Try.prog 25 := ⟨_, Try.func25, by kernel_rfl, rfl⟩
theorem ent26 : Ent Try.prog 26 := ⟨_, Try.func26, by kernel_rfl, rfl⟩
theorem ent27 : Ent Try.prog 27 := ⟨_, Try.func27, by kernel_rfl, rfl⟩
theorem ent28 : Ent Try.prog 28 := ⟨_, Try.func28, by kernel_rfl, rfl⟩
theorem ent29 : Ent Try.prog 29 := ⟨_, Try.func29, by kernel_rfl, rfl⟩
theorem ent30 : Ent Try.prog 30 := ⟨_, Try.func30, by kernel_rfl, rfl⟩
theorem ent31 : Ent Try.prog 31 := ⟨_, Try.func31, by kernel_rfl, rfl⟩
theorem ent32 : Ent Try.prog 32 := ⟨_, Try.func32, by kernel_rfl, rfl⟩
theorem ent33 : Ent Try.prog 33 := ⟨_, Try.func33, by kernel_rfl, rfl⟩
theorem ent34 : Ent Try.prog 34 := ⟨_, Try.func34, by kernel_rfl, rfl⟩
theorem ent35 : Ent Try.prog 35 := ⟨_, Try.func35, by kernel_rfl, rfl⟩
theorem ent36 : Ent Try.prog 36 := ⟨_, Try.func36, by kernel_rfl, rfl⟩
theorem ent37 : Ent Try.prog 37 := ⟨_, Try.func37, by kernel_rfl, rfl⟩
theorem ent38 : Ent Try.prog 38 := ⟨_, Try.func38, by kernel_rfl, rfl⟩
theorem ent39 : Ent Try.prog 39 := ⟨_, Try.func39, by kernel_rfl, rfl⟩
theorem ent40 : Ent Try.prog 40 := ⟨_, Try.func40, by kernel_rfl, rfl⟩
end Go.Proofs.Ytolbmgkoifchfaa
