/- PRINTED BY wip/tools/mktt.py: what the evaluator knows of the types of the program Ytffdiicflahjfaa. -/
import Derived.Test.YtffdiicflahjfaaLY8
import Derived.Test.YtffdiicflahjfaaProg
namespace Go.Proofs.Ytffdiicflahjfaa
open Go Go.Lift

def TT : TTab := fun t => match t with
  | 2 => some ⟨(some .i64), none, 1, 8, false, true, [.v (.int .i64 0)], .oth⟩
  | 3 => some ⟨(some .i64), none, 1, 8, false, true, [.v (.int .i64 0)], .oth⟩
  | 4 => some ⟨none, none, 1, 1, false, true, [.v (.bool false)], .bool⟩
  | 5 => some ⟨(some .u8), none, 1, 1, false, true, [.v (.int .u8 0)], .oth⟩
  | 9 => some ⟨none, none, 1, 16, false, true, [.v (.string ⟨#[]⟩)], .str⟩
  | 12 => some ⟨(some .u64), none, 1, 8, false, true, [.v (.int .u64 0)], .oth⟩
  | 21 => some ⟨(some .i32), none, 1, 4, false, true, [.v (.int .i32 0)], .oth⟩
  | 22 => some ⟨none, none, 1, 24, false, false, [.row 28], (.slice 28)⟩
  | 24 => some ⟨none, none, 1, 24, false, false, [.row 29], (.slice 29)⟩
  | 25 => some ⟨(some .u16), none, 1, 2, false, true, [.v (.int .u16 0)], .oth⟩
  | 26 => some ⟨(some .u32), none, 1, 4, false, true, [.v (.int .u32 0)], .oth⟩
  | 27 => some ⟨none, (some [.int .u16, .int .u32]), 2, 8, true, true, [.v (.int .u16 0), .v (.int .u32 0)], (.struct [(0, 25), (1, 26)])⟩
  | 28 => some ⟨none, (some [.int .u16, .int .u32]), 2, 8, true, true, [.v (.int .u16 0), .v (.int .u32 0)], (.struct [(0, 25), (1, 26)])⟩
  | 29 => some ⟨none, (some [.int .u16, .int .u32]), 2, 8, true, true, [.v (.int .u16 0), .v (.int .u32 0)], (.struct [(0, 25), (1, 26)])⟩
  | 30 => some ⟨none, none, 1, 24, false, false, [.row 105], (.slice 105)⟩
  | 33 => some ⟨none, none, 1, 24, false, false, [.row 107], (.slice 107)⟩
  | 38 => some ⟨none, none, 1, 24, false, false, [.row 5], (.slice 5)⟩
  | 46 => some ⟨(some .u64), none, 1, 8, false, true, [.v (.int .u64 0)], .oth⟩
  | 48 => some ⟨(some .u64), none, 1, 8, false, true, [.v (.int .u64 0)], .oth⟩
  | 49 => some ⟨none, (some [.int .u64, .int .u16, .int .u32]), 3, 16, true, true, [.v (.int .u64 0), .v (.int .u16 0), .v (.int .u32 0)], (.struct [(0, 48), (1, 25), (2, 26)])⟩
  | 50 => some ⟨none, (some [.int .u64, .int .u16, .int .u32]), 3, 16, true, true, [.v (.int .u64 0), .v (.int .u16 0), .v (.int .u32 0)], (.struct [(0, 48), (1, 25), (2, 26)])⟩
  | 51 => some ⟨none, (some [.int .u64, .int .u16, .int .u32]), 3, 16, true, true, [.v (.int .u64 0), .v (.int .u16 0), .v (.int .u32 0)], (.struct [(0, 48), (1, 25), (2, 26)])⟩
  | 59 => some ⟨none, none, 1, 24, false, false, [.row 48], (.slice 48)⟩
  | 60 => some ⟨(some .i64), none, 1, 8, false, true, [.v (.int .i64 0)], .oth⟩
  | 69 => some ⟨none, none, 1, 24, false, false, [.row 72], (.slice 72)⟩
  | 71 => some ⟨none, (some [.int .i64, .int .u64, .str, .int .i64]), 4, 40, true, true, [.v (.int .i64 0), .v (.int .u64 0), .v (.string ⟨#[]⟩), .v (.int .i64 0)], (.struct [(0, 3), (1, 48), (2, 9), (3, 3)])⟩
  | 72 => some ⟨none, (some [.int .i64, .int .u64, .str, .int .i64]), 4, 40, true, true, [.v (.int .i64 0), .v (.int .u64 0), .v (.string ⟨#[]⟩), .v (.int .i64 0)], (.struct [(0, 3), (1, 48), (2, 9), (3, 3)])⟩
  | 75 => some ⟨none, none, 1, 8, false, false, [.v (.pointer none)], .oth⟩
  | 92 => some ⟨none, none, 1, 24, true, false, [.row 5], (.struct [(0, 38)])⟩
  | 93 => some ⟨none, none, 1, 24, true, false, [.row 5], (.struct [(0, 38)])⟩
  | 95 => some ⟨none, none, 1, 8, false, false, [.v (.pointer none)], .oth⟩
  | 104 => some ⟨none, (some [.int .u16, .int .u32, .int .i64]), 3, 16, true, true, [.v (.int .u16 0), .v (.int .u32 0), .v (.int .i64 0)], (.struct [(0, 28), (2, 3)])⟩
  | 105 => some ⟨none, (some [.int .u16, .int .u32, .int .i64]), 3, 16, true, true, [.v (.int .u16 0), .v (.int .u32 0), .v (.int .i64 0)], (.struct [(0, 28), (2, 3)])⟩
  | 106 => some ⟨none, (some [.int .u16, .int .u32, .int .i64]), 3, 16, true, true, [.v (.int .u16 0), .v (.int .u32 0), .v (.int .i64 0)], (.struct [(0, 29), (2, 3)])⟩
  | 107 => some ⟨none, (some [.int .u16, .int .u32, .int .i64]), 3, 16, true, true, [.v (.int .u16 0), .v (.int .u32 0), .v (.int .i64 0)], (.struct [(0, 29), (2, 3)])⟩
  | 108 => some ⟨none, none, 1, 24, false, false, [.row 38], (.slice 38)⟩
  | 114 => some ⟨none, (some [.str, .int .i64, .int .i64]), 3, 32, true, true, [.v (.string ⟨#[]⟩), .v (.int .i64 0), .v (.int .i64 0)], (.struct [(0, 9), (1, 3), (2, 60)])⟩
  | 115 => some ⟨none, (some [.str, .int .i64, .int .i64]), 3, 32, true, true, [.v (.string ⟨#[]⟩), .v (.int .i64 0), .v (.int .i64 0)], (.struct [(0, 9), (1, 3), (2, 60)])⟩
  | 117 => some ⟨none, none, 3, 24, true, true, [.v (.int .u64 0), .v (.int .u64 0), .v (.int .u64 0)], (.arr 3 48)⟩
  | 119 => some ⟨none, none, 1, 24, false, false, [.row 3], (.slice 3)⟩
  | 132 => some ⟨none, none, 1, 8, false, false, [.v (.pointer none)], .oth⟩
  | _ => none

@[go_sem] theorem TTe2 : TT 2 = some ⟨(some .i64), none, 1, 8, false, true, [.v (.int .i64 0)], .oth⟩ := rfl
@[go_sem] theorem TTe3 : TT 3 = some ⟨(some .i64), none, 1, 8, false, true, [.v (.int .i64 0)], .oth⟩ := rfl
@[go_sem] theorem TTe4 : TT 4 = some ⟨none, none, 1, 1, false, true, [.v (.bool false)], .bool⟩ := rfl
@[go_sem] theorem TTe5 : TT 5 = some ⟨(some .u8), none, 1, 1, false, true, [.v (.int .u8 0)], .oth⟩ := rfl
@[go_sem] theorem TTe9 : TT 9 = some ⟨none, none, 1, 16, false, true, [.v (.string ⟨#[]⟩)], .str⟩ := rfl
@[go_sem] theorem TTe12 : TT 12 = some ⟨(some .u64), none, 1, 8, false, true, [.v (.int .u64 0)], .oth⟩ := rfl
@[go_sem] theorem TTe21 : TT 21 = some ⟨(some .i32), none, 1, 4, false, true, [.v (.int .i32 0)], .oth⟩ := rfl
@[go_sem] theorem TTe22 : TT 22 = some ⟨none, none, 1, 24, false, false, [.row 28], (.slice 28)⟩ := rfl
@[go_sem] theorem TTe24 : TT 24 = some ⟨none, none, 1, 24, false, false, [.row 29], (.slice 29)⟩ := rfl
@[go_sem] theorem TTe25 : TT 25 = some ⟨(some .u16), none, 1, 2, false, true, [.v (.int .u16 0)], .oth⟩ := rfl
@[go_sem] theorem TTe26 : TT 26 = some ⟨(some .u32), none, 1, 4, false, true, [.v (.int .u32 0)], .oth⟩ := rfl
@[go_sem] theorem TTe27 : TT 27 = some ⟨none, (some [.int .u16, .int .u32]), 2, 8, true, true, [.v (.int .u16 0), .v (.int .u32 0)], (.struct [(0, 25), (1, 26)])⟩ := rfl
@[go_sem] theorem TTe28 : TT 28 = some ⟨none, (some [.int .u16, .int .u32]), 2, 8, true, true, [.v (.int .u16 0), .v (.int .u32 0)], (.struct [(0, 25), (1, 26)])⟩ := rfl
@[go_sem] theorem TTe29 : TT 29 = some ⟨none, (some [.int .u16, .int .u32]), 2, 8, true, true, [.v (.int .u16 0), .v (.int .u32 0)], (.struct [(0, 25), (1, 26)])⟩ := rfl
@[go_sem] theorem TTe30 : TT 30 = some ⟨none, none, 1, 24, false, false, [.row 105], (.slice 105)⟩ := rfl
@[go_sem] theorem TTe33 : TT 33 = some ⟨none, none, 1, 24, false, false, [.row 107], (.slice 107)⟩ := rfl
@[go_sem] theorem TTe38 : TT 38 = some ⟨none, none, 1, 24, false, false, [.row 5], (.slice 5)⟩ := rfl
@[go_sem] theorem TTe46 : TT 46 = some ⟨(some .u64), none, 1, 8, false, true, [.v (.int .u64 0)], .oth⟩ := rfl
@[go_sem] theorem TTe48 : TT 48 = some ⟨(some .u64), none, 1, 8, false, true, [.v (.int .u64 0)], .oth⟩ := rfl
@[go_sem] theorem TTe49 : TT 49 = some ⟨none, (some [.int .u64, .int .u16, .int .u32]), 3, 16, true, true, [.v (.int .u64 0), .v (.int .u16 0), .v (.int .u32 0)], (.struct [(0, 48), (1, 25), (2, 26)])⟩ := rfl
@[go_sem] theorem TTe50 : TT 50 = some ⟨none, (some [.int .u64, .int .u16, .int .u32]), 3, 16, true, true, [.v (.int .u64 0), .v (.int .u16 0), .v (.int .u32 0)], (.struct [(0, 48), (1, 25), (2, 26)])⟩ := rfl
@[go_sem] theorem TTe51 : TT 51 = some ⟨none, (some [.int .u64, .int .u16, .int .u32]), 3, 16, true, true, [.v (.int .u64 0), .v (.int .u16 0), .v (.int .u32 0)], (.struct [(0, 48), (1, 25), (2, 26)])⟩ := rfl
@[go_sem] theorem TTe59 : TT 59 = some ⟨none, none, 1, 24, false, false, [.row 48], (.slice 48)⟩ := rfl
@[go_sem] theorem TTe60 : TT 60 = some ⟨(some .i64), none, 1, 8, false, true, [.v (.int .i64 0)], .oth⟩ := rfl
@[go_sem] theorem TTe69 : TT 69 = some ⟨none, none, 1, 24, false, false, [.row 72], (.slice 72)⟩ := rfl
@[go_sem] theorem TTe71 : TT 71 = some ⟨none, (some [.int .i64, .int .u64, .str, .int .i64]), 4, 40, true, true, [.v (.int .i64 0), .v (.int .u64 0), .v (.string ⟨#[]⟩), .v (.int .i64 0)], (.struct [(0, 3), (1, 48), (2, 9), (3, 3)])⟩ := rfl
@[go_sem] theorem TTe72 : TT 72 = some ⟨none, (some [.int .i64, .int .u64, .str, .int .i64]), 4, 40, true, true, [.v (.int .i64 0), .v (.int .u64 0), .v (.string ⟨#[]⟩), .v (.int .i64 0)], (.struct [(0, 3), (1, 48), (2, 9), (3, 3)])⟩ := rfl
@[go_sem] theorem TTe75 : TT 75 = some ⟨none, none, 1, 8, false, false, [.v (.pointer none)], .oth⟩ := rfl
@[go_sem] theorem TTe92 : TT 92 = some ⟨none, none, 1, 24, true, false, [.row 5], (.struct [(0, 38)])⟩ := rfl
@[go_sem] theorem TTe93 : TT 93 = some ⟨none, none, 1, 24, true, false, [.row 5], (.struct [(0, 38)])⟩ := rfl
@[go_sem] theorem TTe95 : TT 95 = some ⟨none, none, 1, 8, false, false, [.v (.pointer none)], .oth⟩ := rfl
@[go_sem] theorem TTe104 : TT 104 = some ⟨none, (some [.int .u16, .int .u32, .int .i64]), 3, 16, true, true, [.v (.int .u16 0), .v (.int .u32 0), .v (.int .i64 0)], (.struct [(0, 28), (2, 3)])⟩ := rfl
@[go_sem] theorem TTe105 : TT 105 = some ⟨none, (some [.int .u16, .int .u32, .int .i64]), 3, 16, true, true, [.v (.int .u16 0), .v (.int .u32 0), .v (.int .i64 0)], (.struct [(0, 28), (2, 3)])⟩ := rfl
@[go_sem] theorem TTe106 : TT 106 = some ⟨none, (some [.int .u16, .int .u32, .int .i64]), 3, 16, true, true, [.v (.int .u16 0), .v (.int .u32 0), .v (.int .i64 0)], (.struct [(0, 29), (2, 3)])⟩ := rfl
@[go_sem] theorem TTe107 : TT 107 = some ⟨none, (some [.int .u16, .int .u32, .int .i64]), 3, 16, true, true, [.v (.int .u16 0), .v (.int .u32 0), .v (.int .i64 0)], (.struct [(0, 29), (2, 3)])⟩ := rfl
@[go_sem] theorem TTe108 : TT 108 = some ⟨none, none, 1, 24, false, false, [.row 38], (.slice 38)⟩ := rfl
@[go_sem] theorem TTe114 : TT 114 = some ⟨none, (some [.str, .int .i64, .int .i64]), 3, 32, true, true, [.v (.string ⟨#[]⟩), .v (.int .i64 0), .v (.int .i64 0)], (.struct [(0, 9), (1, 3), (2, 60)])⟩ := rfl
@[go_sem] theorem TTe115 : TT 115 = some ⟨none, (some [.str, .int .i64, .int .i64]), 3, 32, true, true, [.v (.string ⟨#[]⟩), .v (.int .i64 0), .v (.int .i64 0)], (.struct [(0, 9), (1, 3), (2, 60)])⟩ := rfl
@[go_sem] theorem TTe117 : TT 117 = some ⟨none, none, 3, 24, true, true, [.v (.int .u64 0), .v (.int .u64 0), .v (.int .u64 0)], (.arr 3 48)⟩ := rfl
@[go_sem] theorem TTe119 : TT 119 = some ⟨none, none, 1, 24, false, false, [.row 3], (.slice 3)⟩ := rfl
@[go_sem] theorem TTe132 : TT 132 = some ⟨none, none, 1, 8, false, false, [.v (.pointer none)], .oth⟩ := rfl
theorem TTe : True := trivial
theorem tt2 : TIok Try.prog 2 ⟨(some .i64), none, 1, 8, false, true, [.v (.int .i64 0)], .oth⟩ :=
  TIok.mk' (z := ((.int .i64 0))) (by kernel_rfl) (by simp [zOk, Value.cells, Value.oneCell']) rfl (by decide) Try.underlying2 trivial rfl (fun k h => by cases h; exact Try.underlying2) (fun ks h => by cases h)
theorem tt3 : TIok Try.prog 3 ⟨(some .i64), none, 1, 8, false, true, [.v (.int .i64 0)], .oth⟩ :=
  TIok.mk' (z := ((.int .i64 0))) (by kernel_rfl) (by simp [zOk, Value.cells, Value.oneCell']) rfl (by decide) Try.underlying3 trivial rfl (fun k h => by cases h; exact Try.underlying3) (fun ks h => by cases h)
theorem tt4 : TIok Try.prog 4 ⟨none, none, 1, 1, false, true, [.v (.bool false)], .bool⟩ :=
  TIok.mk' (z := ((.bool false))) (by kernel_rfl) (by simp [zOk, Value.cells, Value.oneCell']) rfl (by decide) Try.underlying4 rfl rfl (fun k h => by cases h) (fun ks h => by cases h)
theorem tt5 : TIok Try.prog 5 ⟨(some .u8), none, 1, 1, false, true, [.v (.int .u8 0)], .oth⟩ :=
  TIok.mk' (z := ((.int .u8 0))) (by kernel_rfl) (by simp [zOk, Value.cells, Value.oneCell']) rfl (by decide) Try.underlying5 trivial rfl (fun k h => by cases h; exact Try.underlying5) (fun ks h => by cases h)
theorem tt9 : TIok Try.prog 9 ⟨none, none, 1, 16, false, true, [.v (.string ⟨#[]⟩)], .str⟩ :=
  TIok.mk' (z := ((.string ⟨#[]⟩))) (by kernel_rfl) (by simp [zOk, Value.cells, Value.oneCell']) rfl (by decide) Try.underlying9 rfl rfl (fun k h => by cases h) (fun ks h => by cases h)
theorem tt12 : TIok Try.prog 12 ⟨(some .u64), none, 1, 8, false, true, [.v (.int .u64 0)], .oth⟩ :=
  TIok.mk' (z := ((.int .u64 0))) (by kernel_rfl) (by simp [zOk, Value.cells, Value.oneCell']) rfl (by decide) Try.underlying12 trivial rfl (fun k h => by cases h; exact Try.underlying12) (fun ks h => by cases h)
theorem tt21 : TIok Try.prog 21 ⟨(some .i32), none, 1, 4, false, true, [.v (.int .i32 0)], .oth⟩ :=
  TIok.mk' (z := ((.int .i32 0))) (by kernel_rfl) (by simp [zOk, Value.cells, Value.oneCell']) rfl (by decide) Try.underlying21 trivial rfl (fun k h => by cases h; exact Try.underlying21) (fun ks h => by cases h)
theorem tt22 : TIok Try.prog 22 ⟨none, none, 1, 24, false, false, [.row 28], (.slice 28)⟩ :=
  TIok.mk' (z := ((.slice none 0 0))) (by kernel_rfl) (by simp [zOk, Value.cells, Value.oneCell']) rfl (by decide) Try.underlying22 rfl rfl (fun k h => by cases h) (fun ks h => by cases h)
theorem tt24 : TIok Try.prog 24 ⟨none, none, 1, 24, false, false, [.row 29], (.slice 29)⟩ :=
  TIok.mk' (z := ((.slice none 0 0))) (by kernel_rfl) (by simp [zOk, Value.cells, Value.oneCell']) rfl (by decide) Try.underlying24 rfl rfl (fun k h => by cases h) (fun ks h => by cases h)
theorem tt25 : TIok Try.prog 25 ⟨(some .u16), none, 1, 2, false, true, [.v (.int .u16 0)], .oth⟩ :=
  TIok.mk' (z := ((.int .u16 0))) (by kernel_rfl) (by simp [zOk, Value.cells, Value.oneCell']) rfl (by decide) Try.underlying25 trivial rfl (fun k h => by cases h; exact Try.underlying25) (fun ks h => by cases h)
theorem tt26 : TIok Try.prog 26 ⟨(some .u32), none, 1, 4, false, true, [.v (.int .u32 0)], .oth⟩ :=
  TIok.mk' (z := ((.int .u32 0))) (by kernel_rfl) (by simp [zOk, Value.cells, Value.oneCell']) rfl (by decide) Try.underlying26 trivial rfl (fun k h => by cases h; exact Try.underlying26) (fun ks h => by cases h)
theorem tt27_eq : EqTy Try.prog 2 27 [.int .u16, .int .u32] :=
  eqTy_struct Try.underlying27 (by kernel_rfl) (.one rfl rfl Try.underlying25 rfl (scEq_int 0 Try.underlying25) (.one rfl rfl Try.underlying26 rfl (scEq_int 0 Try.underlying26) .nil))
theorem tt27 : TIok Try.prog 27 ⟨none, (some [.int .u16, .int .u32]), 2, 8, true, true, [.v (.int .u16 0), .v (.int .u32 0)], (.struct [(0, 25), (1, 26)])⟩ :=
  TIok.mk' (z := (.agg #[(.int .u16 0), (.int .u32 0)])) (by kernel_rfl) (by simp [zOk, Value.cells, Value.oneCell']) rfl (by decide) Try.underlying27 ⟨_, rfl, rfl⟩ rfl (fun k h => by cases h) (eqk_flat (by kernel_rfl) (by decide) tt27_eq)
theorem tt28_eq : EqTy Try.prog 2 28 [.int .u16, .int .u32] :=
  eqTy_struct Try.underlying28 (by kernel_rfl) (.one rfl rfl Try.underlying25 rfl (scEq_int 0 Try.underlying25) (.one rfl rfl Try.underlying26 rfl (scEq_int 0 Try.underlying26) .nil))
theorem tt28 : TIok Try.prog 28 ⟨none, (some [.int .u16, .int .u32]), 2, 8, true, true, [.v (.int .u16 0), .v (.int .u32 0)], (.struct [(0, 25), (1, 26)])⟩ :=
  TIok.mk' (z := (.agg #[(.int .u16 0), (.int .u32 0)])) (by kernel_rfl) (by simp [zOk, Value.cells, Value.oneCell']) rfl (by decide) Try.underlying28 ⟨_, rfl, rfl⟩ rfl (fun k h => by cases h) (eqk_flat (by kernel_rfl) (by decide) tt28_eq)
theorem tt29_eq : EqTy Try.prog 2 29 [.int .u16, .int .u32] :=
  eqTy_struct Try.underlying29 (by kernel_rfl) (.one rfl rfl Try.underlying25 rfl (scEq_int 0 Try.underlying25) (.one rfl rfl Try.underlying26 rfl (scEq_int 0 Try.underlying26) .nil))
theorem tt29 : TIok Try.prog 29 ⟨none, (some [.int .u16, .int .u32]), 2, 8, true, true, [.v (.int .u16 0), .v (.int .u32 0)], (.struct [(0, 25), (1, 26)])⟩ :=
  TIok.mk' (z := (.agg #[(.int .u16 0), (.int .u32 0)])) (by kernel_rfl) (by simp [zOk, Value.cells, Value.oneCell']) rfl (by decide) Try.underlying29 ⟨_, rfl, rfl⟩ rfl (fun k h => by cases h) (eqk_flat (by kernel_rfl) (by decide) tt29_eq)
theorem tt30 : TIok Try.prog 30 ⟨none, none, 1, 24, false, false, [.row 105], (.slice 105)⟩ :=
  TIok.mk' (z := ((.slice none 0 0))) (by kernel_rfl) (by simp [zOk, Value.cells, Value.oneCell']) rfl (by decide) Try.underlying30 rfl rfl (fun k h => by cases h) (fun ks h => by cases h)
theorem tt33 : TIok Try.prog 33 ⟨none, none, 1, 24, false, false, [.row 107], (.slice 107)⟩ :=
  TIok.mk' (z := ((.slice none 0 0))) (by kernel_rfl) (by simp [zOk, Value.cells, Value.oneCell']) rfl (by decide) Try.underlying33 rfl rfl (fun k h => by cases h) (fun ks h => by cases h)
theorem tt38 : TIok Try.prog 38 ⟨none, none, 1, 24, false, false, [.row 5], (.slice 5)⟩ :=
  TIok.mk' (z := ((.slice none 0 0))) (by kernel_rfl) (by simp [zOk, Value.cells, Value.oneCell']) rfl (by decide) Try.underlying38 rfl rfl (fun k h => by cases h) (fun ks h => by cases h)
theorem tt46 : TIok Try.prog 46 ⟨(some .u64), none, 1, 8, false, true, [.v (.int .u64 0)], .oth⟩ :=
  TIok.mk' (z := ((.int .u64 0))) (by kernel_rfl) (by simp [zOk, Value.cells, Value.oneCell']) rfl (by decide) Try.underlying46 trivial rfl (fun k h => by cases h; exact Try.underlying46) (fun ks h => by cases h)
theorem tt48 : TIok Try.prog 48 ⟨(some .u64), none, 1, 8, false, true, [.v (.int .u64 0)], .oth⟩ :=
  TIok.mk' (z := ((.int .u64 0))) (by kernel_rfl) (by simp [zOk, Value.cells, Value.oneCell']) rfl (by decide) Try.underlying48 trivial rfl (fun k h => by cases h; exact Try.underlying48) (fun ks h => by cases h)
theorem tt49_eq : EqTy Try.prog 2 49 [.int .u64, .int .u16, .int .u32] :=
  eqTy_struct Try.underlying49 (by kernel_rfl) (.one rfl rfl Try.underlying48 rfl (scEq_int 0 Try.underlying48) (.one rfl rfl Try.underlying25 rfl (scEq_int 0 Try.underlying25) (.one rfl rfl Try.underlying26 rfl (scEq_int 0 Try.underlying26) .nil)))
theorem tt49 : TIok Try.prog 49 ⟨none, (some [.int .u64, .int .u16, .int .u32]), 3, 16, true, true, [.v (.int .u64 0), .v (.int .u16 0), .v (.int .u32 0)], (.struct [(0, 48), (1, 25), (2, 26)])⟩ :=
  TIok.mk' (z := (.agg #[(.int .u64 0), (.int .u16 0), (.int .u32 0)])) (by kernel_rfl) (by simp [zOk, Value.cells, Value.oneCell']) rfl (by decide) Try.underlying49 ⟨_, rfl, rfl⟩ rfl (fun k h => by cases h) (eqk_flat (by kernel_rfl) (by decide) tt49_eq)
theorem tt50_eq : EqTy Try.prog 2 50 [.int .u64, .int .u16, .int .u32] :=
  eqTy_struct Try.underlying50 (by kernel_rfl) (.one rfl rfl Try.underlying48 rfl (scEq_int 0 Try.underlying48) (.one rfl rfl Try.underlying25 rfl (scEq_int 0 Try.underlying25) (.one rfl rfl Try.underlying26 rfl (scEq_int 0 Try.underlying26) .nil)))
theorem tt50 : TIok Try.prog 50 ⟨none, (some [.int .u64, .int .u16, .int .u32]), 3, 16, true, true, [.v (.int .u64 0), .v (.int .u16 0), .v (.int .u32 0)], (.struct [(0, 48), (1, 25), (2, 26)])⟩ :=
  TIok.mk' (z := (.agg #[(.int .u64 0), (.int .u16 0), (.int .u32 0)])) (by kernel_rfl) (by simp [zOk, Value.cells, Value.oneCell']) rfl (by decide) Try.underlying50 ⟨_, rfl, rfl⟩ rfl (fun k h => by cases h) (eqk_flat (by kernel_rfl) (by decide) tt50_eq)
theorem tt51_eq : EqTy Try.prog 2 51 [.int .u64, .int .u16, .int .u32] :=
  eqTy_struct Try.underlying51 (by kernel_rfl) (.one rfl rfl Try.underlying48 rfl (scEq_int 0 Try.underlying48) (.one rfl rfl Try.underlying25 rfl (scEq_int 0 Try.underlying25) (.one rfl rfl Try.underlying26 rfl (scEq_int 0 Try.underlying26) .nil)))
theorem tt51 : TIok Try.prog 51 ⟨none, (some [.int .u64, .int .u16, .int .u32]), 3, 16, true, true, [.v (.int .u64 0), .v (.int .u16 0), .v (.int .u32 0)], (.struct [(0, 48), (1, 25), (2, 26)])⟩ :=
  TIok.mk' (z := (.agg #[(.int .u64 0), (.int .u16 0), (.int .u32 0)])) (by kernel_rfl) (by simp [zOk, Value.cells, Value.oneCell']) rfl (by decide) Try.underlying51 ⟨_, rfl, rfl⟩ rfl (fun k h => by cases h) (eqk_flat (by kernel_rfl) (by decide) tt51_eq)
theorem tt59 : TIok Try.prog 59 ⟨none, none, 1, 24, false, false, [.row 48], (.slice 48)⟩ :=
  TIok.mk' (z := ((.slice none 0 0))) (by kernel_rfl) (by simp [zOk, Value.cells, Value.oneCell']) rfl (by decide) Try.underlying59 rfl rfl (fun k h => by cases h) (fun ks h => by cases h)
theorem tt60 : TIok Try.prog 60 ⟨(some .i64), none, 1, 8, false, true, [.v (.int .i64 0)], .oth⟩ :=
  TIok.mk' (z := ((.int .i64 0))) (by kernel_rfl) (by simp [zOk, Value.cells, Value.oneCell']) rfl (by decide) Try.underlying60 trivial rfl (fun k h => by cases h; exact Try.underlying60) (fun ks h => by cases h)
theorem tt69 : TIok Try.prog 69 ⟨none, none, 1, 24, false, false, [.row 72], (.slice 72)⟩ :=
  TIok.mk' (z := ((.slice none 0 0))) (by kernel_rfl) (by simp [zOk, Value.cells, Value.oneCell']) rfl (by decide) Try.underlying69 rfl rfl (fun k h => by cases h) (fun ks h => by cases h)
theorem tt71_eq : EqTy Try.prog 2 71 [.int .i64, .int .u64, .str, .int .i64] :=
  eqTy_struct Try.underlying71 (by kernel_rfl) (.one rfl rfl Try.underlying3 rfl (scEq_int 0 Try.underlying3) (.one rfl rfl Try.underlying48 rfl (scEq_int 0 Try.underlying48) (.one rfl rfl Try.underlying9 rfl (scEq_str 0 Try.underlying9) (.one rfl rfl Try.underlying3 rfl (scEq_int 0 Try.underlying3) .nil))))
theorem tt71 : TIok Try.prog 71 ⟨none, (some [.int .i64, .int .u64, .str, .int .i64]), 4, 40, true, true, [.v (.int .i64 0), .v (.int .u64 0), .v (.string ⟨#[]⟩), .v (.int .i64 0)], (.struct [(0, 3), (1, 48), (2, 9), (3, 3)])⟩ :=
  TIok.mk' (z := (.agg #[(.int .i64 0), (.int .u64 0), (.string ⟨#[]⟩), (.int .i64 0)])) (by kernel_rfl) (by simp [zOk, Value.cells, Value.oneCell']) rfl (by decide) Try.underlying71 ⟨_, rfl, rfl⟩ rfl (fun k h => by cases h) (eqk_flat (by kernel_rfl) (by decide) tt71_eq)
theorem tt72_eq : EqTy Try.prog 2 72 [.int .i64, .int .u64, .str, .int .i64] :=
  eqTy_struct Try.underlying72 (by kernel_rfl) (.one rfl rfl Try.underlying3 rfl (scEq_int 0 Try.underlying3) (.one rfl rfl Try.underlying48 rfl (scEq_int 0 Try.underlying48) (.one rfl rfl Try.underlying9 rfl (scEq_str 0 Try.underlying9) (.one rfl rfl Try.underlying3 rfl (scEq_int 0 Try.underlying3) .nil))))
theorem tt72 : TIok Try.prog 72 ⟨none, (some [.int .i64, .int .u64, .str, .int .i64]), 4, 40, true, true, [.v (.int .i64 0), .v (.int .u64 0), .v (.string ⟨#[]⟩), .v (.int .i64 0)], (.struct [(0, 3), (1, 48), (2, 9), (3, 3)])⟩ :=
  TIok.mk' (z := (.agg #[(.int .i64 0), (.int .u64 0), (.string ⟨#[]⟩), (.int .i64 0)])) (by kernel_rfl) (by simp [zOk, Value.cells, Value.oneCell']) rfl (by decide) Try.underlying72 ⟨_, rfl, rfl⟩ rfl (fun k h => by cases h) (eqk_flat (by kernel_rfl) (by decide) tt72_eq)
theorem tt75 : TIok Try.prog 75 ⟨none, none, 1, 8, false, false, [.v (.pointer none)], .oth⟩ :=
  TIok.mk' (z := ((.pointer none))) (by kernel_rfl) (by simp [zOk, Value.cells, Value.oneCell']) rfl (by decide) Try.underlying75 trivial rfl (fun k h => by cases h) (fun ks h => by cases h)
theorem tt92 : TIok Try.prog 92 ⟨none, none, 1, 24, true, false, [.row 5], (.struct [(0, 38)])⟩ :=
  TIok.mk' (z := (.agg #[(.slice none 0 0)])) (by kernel_rfl) (by simp [zOk, Value.cells, Value.oneCell']) rfl (by decide) Try.underlying92 ⟨_, rfl, rfl⟩ rfl (fun k h => by cases h) (fun ks h => by cases h)
theorem tt93 : TIok Try.prog 93 ⟨none, none, 1, 24, true, false, [.row 5], (.struct [(0, 38)])⟩ :=
  TIok.mk' (z := (.agg #[(.slice none 0 0)])) (by kernel_rfl) (by simp [zOk, Value.cells, Value.oneCell']) rfl (by decide) Try.underlying93 ⟨_, rfl, rfl⟩ rfl (fun k h => by cases h) (fun ks h => by cases h)
theorem tt95 : TIok Try.prog 95 ⟨none, none, 1, 8, false, false, [.v (.pointer none)], .oth⟩ :=
  TIok.mk' (z := ((.pointer none))) (by kernel_rfl) (by simp [zOk, Value.cells, Value.oneCell']) rfl (by decide) Try.underlying95 trivial rfl (fun k h => by cases h) (fun ks h => by cases h)
theorem tt104_eq : EqTy Try.prog 3 104 [.int .u16, .int .u32, .int .i64] :=
  eqTy_struct Try.underlying104 (by kernel_rfl) (.sub (ks1 := [.int .u16, .int .u32]) (ks := [.int .i64]) rfl rfl Try.underlying28 (by kernel_rfl) (tt28_eq.up (by decide)) (.one rfl rfl Try.underlying3 rfl (scEq_int 1 Try.underlying3) .nil))
theorem tt104 : TIok Try.prog 104 ⟨none, (some [.int .u16, .int .u32, .int .i64]), 3, 16, true, true, [.v (.int .u16 0), .v (.int .u32 0), .v (.int .i64 0)], (.struct [(0, 28), (2, 3)])⟩ :=
  TIok.mk' (z := (.agg #[(.int .u16 0), (.int .u32 0), (.int .i64 0)])) (by kernel_rfl) (by simp [zOk, Value.cells, Value.oneCell']) rfl (by decide) Try.underlying104 ⟨_, rfl, rfl⟩ rfl (fun k h => by cases h) (eqk_flat (by kernel_rfl) (by decide) tt104_eq)
theorem tt105_eq : EqTy Try.prog 3 105 [.int .u16, .int .u32, .int .i64] :=
  eqTy_struct Try.underlying105 (by kernel_rfl) (.sub (ks1 := [.int .u16, .int .u32]) (ks := [.int .i64]) rfl rfl Try.underlying28 (by kernel_rfl) (tt28_eq.up (by decide)) (.one rfl rfl Try.underlying3 rfl (scEq_int 1 Try.underlying3) .nil))
theorem tt105 : TIok Try.prog 105 ⟨none, (some [.int .u16, .int .u32, .int .i64]), 3, 16, true, true, [.v (.int .u16 0), .v (.int .u32 0), .v (.int .i64 0)], (.struct [(0, 28), (2, 3)])⟩ :=
  TIok.mk' (z := (.agg #[(.int .u16 0), (.int .u32 0), (.int .i64 0)])) (by kernel_rfl) (by simp [zOk, Value.cells, Value.oneCell']) rfl (by decide) Try.underlying105 ⟨_, rfl, rfl⟩ rfl (fun k h => by cases h) (eqk_flat (by kernel_rfl) (by decide) tt105_eq)
theorem tt106_eq : EqTy Try.prog 3 106 [.int .u16, .int .u32, .int .i64] :=
  eqTy_struct Try.underlying106 (by kernel_rfl) (.sub (ks1 := [.int .u16, .int .u32]) (ks := [.int .i64]) rfl rfl Try.underlying29 (by kernel_rfl) (tt29_eq.up (by decide)) (.one rfl rfl Try.underlying3 rfl (scEq_int 1 Try.underlying3) .nil))
theorem tt106 : TIok Try.prog 106 ⟨none, (some [.int .u16, .int .u32, .int .i64]), 3, 16, true, true, [.v (.int .u16 0), .v (.int .u32 0), .v (.int .i64 0)], (.struct [(0, 29), (2, 3)])⟩ :=
  TIok.mk' (z := (.agg #[(.int .u16 0), (.int .u32 0), (.int .i64 0)])) (by kernel_rfl) (by simp [zOk, Value.cells, Value.oneCell']) rfl (by decide) Try.underlying106 ⟨_, rfl, rfl⟩ rfl (fun k h => by cases h) (eqk_flat (by kernel_rfl) (by decide) tt106_eq)
theorem tt107_eq : EqTy Try.prog 3 107 [.int .u16, .int .u32, .int .i64] :=
  eqTy_struct Try.underlying107 (by kernel_rfl) (.sub (ks1 := [.int .u16, .int .u32]) (ks := [.int .i64]) rfl rfl Try.underlying29 (by kernel_rfl) (tt29_eq.up (by decide)) (.one rfl rfl Try.underlying3 rfl (scEq_int 1 Try.underlying3) .nil))
theorem tt107 : TIok Try.prog 107 ⟨none, (some [.int .u16, .int .u32, .int .i64]), 3, 16, true, true, [.v (.int .u16 0), .v (.int .u32 0), .v (.int .i64 0)], (.struct [(0, 29), (2, 3)])⟩ :=
  TIok.mk' (z := (.agg #[(.int .u16 0), (.int .u32 0), (.int .i64 0)])) (by kernel_rfl) (by simp [zOk, Value.cells, Value.oneCell']) rfl (by decide) Try.underlying107 ⟨_, rfl, rfl⟩ rfl (fun k h => by cases h) (eqk_flat (by kernel_rfl) (by decide) tt107_eq)
theorem tt108 : TIok Try.prog 108 ⟨none, none, 1, 24, false, false, [.row 38], (.slice 38)⟩ :=
  TIok.mk' (z := ((.slice none 0 0))) (by kernel_rfl) (by simp [zOk, Value.cells, Value.oneCell']) rfl (by decide) Try.underlying108 rfl rfl (fun k h => by cases h) (fun ks h => by cases h)
theorem tt114_eq : EqTy Try.prog 2 114 [.str, .int .i64, .int .i64] :=
  eqTy_struct Try.underlying114 (by kernel_rfl) (.one rfl rfl Try.underlying9 rfl (scEq_str 0 Try.underlying9) (.one rfl rfl Try.underlying3 rfl (scEq_int 0 Try.underlying3) (.one rfl rfl Try.underlying60 rfl (scEq_int 0 Try.underlying60) .nil)))
theorem tt114 : TIok Try.prog 114 ⟨none, (some [.str, .int .i64, .int .i64]), 3, 32, true, true, [.v (.string ⟨#[]⟩), .v (.int .i64 0), .v (.int .i64 0)], (.struct [(0, 9), (1, 3), (2, 60)])⟩ :=
  TIok.mk' (z := (.agg #[(.string ⟨#[]⟩), (.int .i64 0), (.int .i64 0)])) (by kernel_rfl) (by simp [zOk, Value.cells, Value.oneCell']) rfl (by decide) Try.underlying114 ⟨_, rfl, rfl⟩ rfl (fun k h => by cases h) (eqk_flat (by kernel_rfl) (by decide) tt114_eq)
theorem tt115_eq : EqTy Try.prog 2 115 [.str, .int .i64, .int .i64] :=
  eqTy_struct Try.underlying115 (by kernel_rfl) (.one rfl rfl Try.underlying9 rfl (scEq_str 0 Try.underlying9) (.one rfl rfl Try.underlying3 rfl (scEq_int 0 Try.underlying3) (.one rfl rfl Try.underlying60 rfl (scEq_int 0 Try.underlying60) .nil)))
theorem tt115 : TIok Try.prog 115 ⟨none, (some [.str, .int .i64, .int .i64]), 3, 32, true, true, [.v (.string ⟨#[]⟩), .v (.int .i64 0), .v (.int .i64 0)], (.struct [(0, 9), (1, 3), (2, 60)])⟩ :=
  TIok.mk' (z := (.agg #[(.string ⟨#[]⟩), (.int .i64 0), (.int .i64 0)])) (by kernel_rfl) (by simp [zOk, Value.cells, Value.oneCell']) rfl (by decide) Try.underlying115 ⟨_, rfl, rfl⟩ rfl (fun k h => by cases h) (eqk_flat (by kernel_rfl) (by decide) tt115_eq)
theorem tt117 : TIok Try.prog 117 ⟨none, none, 3, 24, true, true, [.v (.int .u64 0), .v (.int .u64 0), .v (.int .u64 0)], (.arr 3 48)⟩ :=
  TIok.mk' (z := (.agg #[(.int .u64 0), (.int .u64 0), (.int .u64 0)])) (by kernel_rfl) (by simp [zOk, Value.cells, Value.oneCell']) rfl (by decide) Try.underlying117 rfl rfl (fun k h => by cases h) (fun ks h => by cases h)
theorem tt119 : TIok Try.prog 119 ⟨none, none, 1, 24, false, false, [.row 3], (.slice 3)⟩ :=
  TIok.mk' (z := ((.slice none 0 0))) (by kernel_rfl) (by simp [zOk, Value.cells, Value.oneCell']) rfl (by decide) Try.underlying119 rfl rfl (fun k h => by cases h) (fun ks h => by cases h)
theorem tt132 : TIok Try.prog 132 ⟨none, none, 1, 8, false, false, [.v (.pointer none)], .oth⟩ :=
  TIok.mk' (z := ((.pointer none))) (by kernel_rfl) (by simp [zOk, Value.cells, Value.oneCell']) rfl (by decide) Try.underlying132 trivial rfl (fun k h => by cases h) (fun ks h => by cases h)
theorem ttok : TTok Try.prog TT := by
  intro t i h
  unfold TT at h
  split at h <;> first | (cases h; done) | (cases h; first | exact tt2 | exact tt3 | exact tt4 | exact tt5 | exact tt9 | exact tt12 | exact tt21 | exact tt22 | exact tt24 | exact tt25 | exact tt26 | exact tt27 | exact tt28 | exact tt29 | exact tt30 | exact tt33 | exact tt38 | exact tt46 | exact tt48 | exact tt49 | exact tt50 | exact tt51 | exact tt59 | exact tt60 | exact tt69 | exact tt71 | exact tt72 | exact tt75 | exact tt92 | exact tt93 | exact tt95 | exact tt104 | exact tt105 | exact tt106 | exact tt107 | exact tt108 | exact tt114 | exact tt115 | exact tt117 | exact tt119 | exact tt132)
theorem mixed : Try.prog.follows .mixedOrders = true := by kernel_rfl
theorem ent3 : Ent Try.prog 3 := ⟨_, Try.func3, by kernel_rfl, rfl⟩
theorem ent4 : Ent Try.prog 4 := ⟨_, Try.func4, by kernel_rfl, rfl⟩
theorem ent5 : Ent Try.prog 5 := ⟨_, Try.func5, by kernel_rfl, rfl⟩
theorem ent6 : Ent Try.prog 6 := ⟨_, Try.func6, by kernel_rfl, rfl⟩
theorem ent7 : Ent Try.prog 7 := ⟨_, Try.func7, by kernel_rfl, rfl⟩
theorem ent8 : Ent Try.prog 8 := ⟨_, Try.func8, by kernel_rfl, rfl⟩
theorem ent9 : Ent Try.prog 9 := ⟨_, Try.func9, by kernel_rfl, rfl⟩
theorem ent10 : Ent Try.prog 10 := ⟨_, Try.func10, by kernel_rfl, rfl⟩
theorem ent11 : Ent Try.prog 11 := ⟨_, Try.func11, by kernel_rfl, rfl⟩
theorem ent12 : Ent Try.prog 12 := ⟨_, Try.func12, by kernel_rfl, rfl⟩
theorem ent13 : Ent Try.prog 13 := ⟨_, Try.func13, by kernel_rfl, rfl⟩
theorem ent14 : Ent Try.prog 14 := ⟨_, Try.func14, by kernel_rfl, rfl⟩
theorem ent15 : Ent Try.prog 15 := ⟨_, Try.func15, by kernel_rfl, rfl⟩
theorem ent16 : Ent Try.prog 16 := ⟨_, Try.func16, by kernel_rfl, rfl⟩
theorem ent17 : Ent Try.prog 17 := ⟨_, Try.func17, by kernel_rfl, rfl⟩
theorem ent18 : Ent Try.prog 18 := ⟨_, Try.func18, by kernel_rfl, rfl⟩
theorem ent19 : Ent Try.prog 19 := ⟨_, Try.func19, by kernel_rfl, rfl⟩
theorem ent20 : Ent Try.prog 20 := ⟨_, Try.func20, by kernel_rfl, rfl⟩
theorem ent21 : Ent Try.prog 21 := ⟨_, Try.func21, by kernel_rfl, rfl⟩
theorem ent22 : Ent Try.prog 22 := ⟨_, Try.func22, by kernel_rfl, rfl⟩
theorem ent23 : Ent Try.prog 23 := ⟨_, Try.func23, by kernel_rfl, rfl⟩
theorem ent24 : Ent Try.prog 24 := ⟨_, Try.func24, by kernel_rfl, rfl⟩
theorem ent25 : Ent Try.prog 25 := ⟨_, Try.func25, by kernel_rfl, rfl⟩
theorem ent26 : Ent Try.prog 26 := ⟨_, Try.func26, by kernel_rfl, rfl⟩
theorem ent27 : Ent Try.prog 27 := ⟨_, Try.func27, by kernel_rfl, rfl⟩
theorem ent28 : Ent Try.prog 28 := ⟨_, Try.func28, by kernel_rfl, rfl⟩
theorem ent29 : Ent Try.prog 29 := ⟨_, Try.func29, by kernel_rfl, rfl⟩
theorem ent30 : Ent Try.prog 30 := ⟨_, Try.func30, by kernel_rfl, rfl⟩
theorem ent31 : Ent Try.prog 31 := ⟨_, Try.func31, by kernel_rfl, rfl⟩
theorem ent32 : Ent Try.prog 32 := ⟨_, Try.func32, by kernel_rfl, rfl⟩
theorem ent33 : Ent Try.prog 33 := ⟨_, Try.func33, by kernel_rfl, rfl⟩
theorem ent34 : Ent Try.prog 34 := ⟨_, Try.func34, by kernel_rfl, rfl⟩
theorem ent35 : Ent Try.prog 35 := ⟨_, Try.func35, by kernel_rfl, rfl⟩
theorem ent36 : Ent Try.prog 36 := ⟨_, Try.func36, by kernel_rfl, rfl⟩
theorem ent37 : Ent Try.prog 37 := ⟨_, Try.func37, by kernel_rfl, rfl⟩
theorem ent38 : Ent Try.prog 38 := ⟨_, Try.func38, by kernel_rfl, rfl⟩
theorem ent39 : Ent Try.prog 39 := ⟨_, Try.func39, by kernel_rfl, rfl⟩
theorem ent40 : Ent Try.prog 40 := ⟨_, Try.func40, by kernel_rfl, rfl⟩
theorem ent41 : Ent Try.prog 41 := ⟨_, Try.func41, by kernel_rfl, rfl⟩
theorem ent42 : Ent Try.prog 42 := ⟨_, Try.func42, by kernel_rfl, rfl⟩
theorem ent43 : Ent Try.prog 43 := ⟨_, Try.func43, by kernel_rfl, rfl⟩
theorem ent44 : Ent Try.prog 44 := ⟨_, Try.func44, by kernel_rfl, rfl⟩
theorem ent45 : Ent Try.prog 45 := ⟨_, Try.func45, by kernel_rfl, rfl⟩
theorem ent46 : Ent Try.prog 46 := ⟨_, Try.func46, by kernel_rfl, rfl⟩
theorem ent47 : Ent Try.prog 47 := ⟨_, Try.func47, by kernel_rfl, rfl⟩
theorem ent48 : Ent Try.prog 48 := ⟨_, Try.func48, by kernel_rfl, rfl⟩
theorem ent49 : Ent Try.prog 49 := ⟨_, Try.func49, by kernel_rfl, rfl⟩
theorem ent50 : Ent Try.prog 50 := ⟨_, Try.func50, by kernel_rfl, rfl⟩
theorem ent51 : Ent Try.prog 51 := ⟨_, Try.func51, by kernel_rfl, rfl⟩
theorem ent52 : Ent Try.prog 52 := ⟨_, Try.func52, by kernel_rfl, rfl⟩
theorem ent53 : Ent Try.prog 53 := ⟨_, Try.func53, by kernel_rfl, rfl⟩
theorem ent54 : Ent Try.prog 54 := ⟨_, Try.func54, by kernel_rfl, rfl⟩
theorem ent55 : Ent Try.prog 55 := ⟨_, Try.func55, by kernel_rfl, rfl⟩
theorem ent56 : Ent Try.prog 56 := ⟨_, Try.func56, by kernel_rfl, rfl⟩
theorem ent57 : Ent Try.prog 57 := ⟨_, Try.func57, by kernel_rfl, rfl⟩
theorem ent58 : Ent Try.prog 58 := ⟨_, Try.func58, by kernel_rfl, rfl⟩
theorem ent59 : Ent Try.prog 59 := ⟨_, Try.func59, by kernel_rfl, rfl⟩
theorem ent60 : Ent Try.prog 60 := ⟨_, Try.func60, by kernel_rfl, rfl⟩
theorem ent61 : Ent Try.prog 61 := ⟨_, Try.func61, by kernel_rfl, rfl⟩
theorem ent62 : Ent Try.prog 62 := ⟨_, Try.func62, by kernel_rfl, rfl⟩
theorem ent63 : Ent Try.prog 63 := ⟨_, Try.func63, by kernel_rfl, rfl⟩
theorem ent64 : Ent Try.prog 64 := ⟨_, Try.func64, by kernel_rfl, rfl⟩
theorem ent65 : Ent Try.prog 65 := ⟨_, Try.func65, by kernel_rfl, rfl⟩
theorem ent66 : Ent Try.prog 66 := ⟨_, Try.func66, by kernel_rfl, rfl⟩
theorem ent67 : Ent Try.prog 67 := ⟨_, Try.func67, by kernel_rfl, rfl⟩
theorem ent68 : Ent Try.prog 68 := ⟨_, Try.func68, by kernel_rfl, rfl⟩
theorem ent69 : Ent Try.prog 69 := ⟨_, Try.func69, by kernel_rfl, rfl⟩
theorem ent70 : Ent Try.prog 70 := ⟨_, Try.func70, by kernel_rfl, rfl⟩
theorem ent71 : Ent Try.prog 71 := ⟨_, Try.func71, by kernel_rfl, rfl⟩
theorem ent72 : Ent Try.prog 72 := ⟨_, Try.func72, by kernel_rfl, rfl⟩
end Go.Proofs.Ytffdiicflahjfaa
