/- PRINTED BY wip/tools/mktt.py: what the evaluator knows of the types of the program YtffdiicflahjfaaDoor. -/
import Derived.Test.YtffdiicflahjfaaDoorProg
import Derived.Test.YtffdiicflahjfaaDoorLA3
namespace Go.Proofs.YtffdiicflahjfaaDoor
open Go Go.Lift
set_option maxRecDepth 20000

def TT : TTab := fun t => match t with
  | 2 => some ⟨(some .i64), none, 1, 8, false, true, [.v (.int .i64 0)], .oth⟩
  | 3 => some ⟨(some .i64), none, 1, 8, false, true, [.v (.int .i64 0)], .oth⟩
  | 4 => some ⟨none, none, 1, 1, false, true, [.v (.bool false)], .bool⟩
  | 5 => some ⟨(some .u8), none, 1, 1, false, true, [.v (.int .u8 0)], .oth⟩
  | 9 => some ⟨none, none, 1, 16, false, true, [.v (.string ⟨#[]⟩)], .str⟩
  | 12 => some ⟨(some .u64), none, 1, 8, false, true, [.v (.int .u64 0)], .oth⟩
  | 21 => some ⟨(some .i32), none, 1, 4, false, true, [.v (.int .i32 0)], .oth⟩
  | 22 => some ⟨(some .u16), none, 1, 2, false, true, [.v (.int .u16 0)], .oth⟩
  | 23 => some ⟨(some .u32), none, 1, 4, false, true, [.v (.int .u32 0)], .oth⟩
  | 24 => some ⟨none, (some [.int .u16, .int .u32]), 2, 8, true, true, [.v (.int .u16 0), .v (.int .u32 0)], (.struct [(0, 22), (1, 23)])⟩
  | 25 => some ⟨none, (some [.int .u16, .int .u32]), 2, 8, true, true, [.v (.int .u16 0), .v (.int .u32 0)], (.struct [(0, 22), (1, 23)])⟩
  | 29 => some ⟨(some .i64), none, 1, 8, false, true, [.v (.int .i64 0)], .oth⟩
  | 33 => some ⟨none, (some [.int .u16, .int .u32]), 2, 8, true, true, [.v (.int .u16 0), .v (.int .u32 0)], (.struct [(0, 22), (1, 23)])⟩
  | 41 => some ⟨(some .u64), none, 1, 8, false, true, [.v (.int .u64 0)], .oth⟩
  | 54 => some ⟨none, none, 1, 24, false, false, [.row 5], (.slice 5)⟩
  | 55 => some ⟨none, none, 1, 24, false, false, [.row 3], (.slice 3)⟩
  | 59 => some ⟨none, none, 24, 24, true, true, [.v (.int .u8 0), .v (.int .u8 0), .v (.int .u8 0), .v (.int .u8 0), .v (.int .u8 0), .v (.int .u8 0), .v (.int .u8 0), .v (.int .u8 0), .v (.int .u8 0), .v (.int .u8 0), .v (.int .u8 0), .v (.int .u8 0), .v (.int .u8 0), .v (.int .u8 0), .v (.int .u8 0), .v (.int .u8 0), .v (.int .u8 0), .v (.int .u8 0), .v (.int .u8 0), .v (.int .u8 0), .v (.int .u8 0), .v (.int .u8 0), .v (.int .u8 0), .v (.int .u8 0)], (.arr 24 5)⟩
  | 68 => some ⟨none, none, 20, 160, true, true, [.v (.int .u64 0), .v (.int .u64 0), .v (.int .u64 0), .v (.int .u64 0), .v (.int .u64 0), .v (.int .u64 0), .v (.int .u64 0), .v (.int .u64 0), .v (.int .u64 0), .v (.int .u64 0), .v (.int .u64 0), .v (.int .u64 0), .v (.int .u64 0), .v (.int .u64 0), .v (.int .u64 0), .v (.int .u64 0), .v (.int .u64 0), .v (.int .u64 0), .v (.int .u64 0), .v (.int .u64 0)], (.arr 20 41)⟩
  | 71 => some ⟨(some .u64), none, 1, 8, false, true, [.v (.int .u64 0)], .oth⟩
  | 77 => some ⟨none, none, 1, 8, false, false, [.v (.pointer none)], .oth⟩
  | 87 => some ⟨none, none, 32, 32, true, true, [.v (.int .u8 0), .v (.int .u8 0), .v (.int .u8 0), .v (.int .u8 0), .v (.int .u8 0), .v (.int .u8 0), .v (.int .u8 0), .v (.int .u8 0), .v (.int .u8 0), .v (.int .u8 0), .v (.int .u8 0), .v (.int .u8 0), .v (.int .u8 0), .v (.int .u8 0), .v (.int .u8 0), .v (.int .u8 0), .v (.int .u8 0), .v (.int .u8 0), .v (.int .u8 0), .v (.int .u8 0), .v (.int .u8 0), .v (.int .u8 0), .v (.int .u8 0), .v (.int .u8 0), .v (.int .u8 0), .v (.int .u8 0), .v (.int .u8 0), .v (.int .u8 0), .v (.int .u8 0), .v (.int .u8 0), .v (.int .u8 0), .v (.int .u8 0)], (.arr 32 5)⟩
  | 88 => some ⟨none, none, 64, 64, true, true, [.v (.int .u8 0), .v (.int .u8 0), .v (.int .u8 0), .v (.int .u8 0), .v (.int .u8 0), .v (.int .u8 0), .v (.int .u8 0), .v (.int .u8 0), .v (.int .u8 0), .v (.int .u8 0), .v (.int .u8 0), .v (.int .u8 0), .v (.int .u8 0), .v (.int .u8 0), .v (.int .u8 0), .v (.int .u8 0), .v (.int .u8 0), .v (.int .u8 0), .v (.int .u8 0), .v (.int .u8 0), .v (.int .u8 0), .v (.int .u8 0), .v (.int .u8 0), .v (.int .u8 0), .v (.int .u8 0), .v (.int .u8 0), .v (.int .u8 0), .v (.int .u8 0), .v (.int .u8 0), .v (.int .u8 0), .v (.int .u8 0), .v (.int .u8 0), .v (.int .u8 0), .v (.int .u8 0), .v (.int .u8 0), .v (.int .u8 0), .v (.int .u8 0), .v (.int .u8 0), .v (.int .u8 0), .v (.int .u8 0), .v (.int .u8 0), .v (.int .u8 0), .v (.int .u8 0), .v (.int .u8 0), .v (.int .u8 0), .v (.int .u8 0), .v (.int .u8 0), .v (.int .u8 0), .v (.int .u8 0), .v (.int .u8 0), .v (.int .u8 0), .v (.int .u8 0), .v (.int .u8 0), .v (.int .u8 0), .v (.int .u8 0), .v (.int .u8 0), .v (.int .u8 0), .v (.int .u8 0), .v (.int .u8 0), .v (.int .u8 0), .v (.int .u8 0), .v (.int .u8 0), .v (.int .u8 0), .v (.int .u8 0)], (.arr 64 5)⟩
  | 89 => some ⟨none, none, 1, 8, false, false, [.v (.pointer none)], .oth⟩
  | 90 => some ⟨none, none, 1, 8, false, false, [.v (.pointer none)], .oth⟩
  | 91 => some ⟨none, (some [.str]), 1, 16, true, true, [.v (.string ⟨#[]⟩)], (.struct [(0, 9)])⟩
  | 92 => some ⟨none, (some [.str]), 1, 16, true, true, [.v (.string ⟨#[]⟩)], (.struct [(0, 9)])⟩
  | _ => none

@[go_sem] theorem TTe2 : TT 2 = some ⟨(some .i64), none, 1, 8, false, true, [.v (.int .i64 0)], .oth⟩ := rfl
@[go_sem] theorem TTe3 : TT 3 = some ⟨(some .i64), none, 1, 8, false, true, [.v (.int .i64 0)], .oth⟩ := rfl
@[go_sem] theorem TTe4 : TT 4 = some ⟨none, none, 1, 1, false, true, [.v (.bool false)], .bool⟩ := rfl
@[go_sem] theorem TTe5 : TT 5 = some ⟨(some .u8), none, 1, 1, false, true, [.v (.int .u8 0)], .oth⟩ := rfl
@[go_sem] theorem TTe9 : TT 9 = some ⟨none, none, 1, 16, false, true, [.v (.string ⟨#[]⟩)], .str⟩ := rfl
@[go_sem] theorem TTe12 : TT 12 = some ⟨(some .u64), none, 1, 8, false, true, [.v (.int .u64 0)], .oth⟩ := rfl
@[go_sem] theorem TTe21 : TT 21 = some ⟨(some .i32), none, 1, 4, false, true, [.v (.int .i32 0)], .oth⟩ := rfl
@[go_sem] theorem TTe22 : TT 22 = some ⟨(some .u16), none, 1, 2, false, true, [.v (.int .u16 0)], .oth⟩ := rfl
@[go_sem] theorem TTe23 : TT 23 = some ⟨(some .u32), none, 1, 4, false, true, [.v (.int .u32 0)], .oth⟩ := rfl
@[go_sem] theorem TTe24 : TT 24 = some ⟨none, (some [.int .u16, .int .u32]), 2, 8, true, true, [.v (.int .u16 0), .v (.int .u32 0)], (.struct [(0, 22), (1, 23)])⟩ := rfl
@[go_sem] theorem TTe25 : TT 25 = some ⟨none, (some [.int .u16, .int .u32]), 2, 8, true, true, [.v (.int .u16 0), .v (.int .u32 0)], (.struct [(0, 22), (1, 23)])⟩ := rfl
@[go_sem] theorem TTe29 : TT 29 = some ⟨(some .i64), none, 1, 8, false, true, [.v (.int .i64 0)], .oth⟩ := rfl
@[go_sem] theorem TTe33 : TT 33 = some ⟨none, (some [.int .u16, .int .u32]), 2, 8, true, true, [.v (.int .u16 0), .v (.int .u32 0)], (.struct [(0, 22), (1, 23)])⟩ := rfl
@[go_sem] theorem TTe41 : TT 41 = some ⟨(some .u64), none, 1, 8, false, true, [.v (.int .u64 0)], .oth⟩ := rfl
@[go_sem] theorem TTe54 : TT 54 = some ⟨none, none, 1, 24, false, false, [.row 5], (.slice 5)⟩ := rfl
@[go_sem] theorem TTe55 : TT 55 = some ⟨none, none, 1, 24, false, false, [.row 3], (.slice 3)⟩ := rfl
@[go_sem] theorem TTe59 : TT 59 = some ⟨none, none, 24, 24, true, true, [.v (.int .u8 0), .v (.int .u8 0), .v (.int .u8 0), .v (.int .u8 0), .v (.int .u8 0), .v (.int .u8 0), .v (.int .u8 0), .v (.int .u8 0), .v (.int .u8 0), .v (.int .u8 0), .v (.int .u8 0), .v (.int .u8 0), .v (.int .u8 0), .v (.int .u8 0), .v (.int .u8 0), .v (.int .u8 0), .v (.int .u8 0), .v (.int .u8 0), .v (.int .u8 0), .v (.int .u8 0), .v (.int .u8 0), .v (.int .u8 0), .v (.int .u8 0), .v (.int .u8 0)], (.arr 24 5)⟩ := rfl
@[go_sem] theorem TTe68 : TT 68 = some ⟨none, none, 20, 160, true, true, [.v (.int .u64 0), .v (.int .u64 0), .v (.int .u64 0), .v (.int .u64 0), .v (.int .u64 0), .v (.int .u64 0), .v (.int .u64 0), .v (.int .u64 0), .v (.int .u64 0), .v (.int .u64 0), .v (.int .u64 0), .v (.int .u64 0), .v (.int .u64 0), .v (.int .u64 0), .v (.int .u64 0), .v (.int .u64 0), .v (.int .u64 0), .v (.int .u64 0), .v (.int .u64 0), .v (.int .u64 0)], (.arr 20 41)⟩ := rfl
@[go_sem] theorem TTe71 : TT 71 = some ⟨(some .u64), none, 1, 8, false, true, [.v (.int .u64 0)], .oth⟩ := rfl
@[go_sem] theorem TTe77 : TT 77 = some ⟨none, none, 1, 8, false, false, [.v (.pointer none)], .oth⟩ := rfl
@[go_sem] theorem TTe87 : TT 87 = some ⟨none, none, 32, 32, true, true, [.v (.int .u8 0), .v (.int .u8 0), .v (.int .u8 0), .v (.int .u8 0), .v (.int .u8 0), .v (.int .u8 0), .v (.int .u8 0), .v (.int .u8 0), .v (.int .u8 0), .v (.int .u8 0), .v (.int .u8 0), .v (.int .u8 0), .v (.int .u8 0), .v (.int .u8 0), .v (.int .u8 0), .v (.int .u8 0), .v (.int .u8 0), .v (.int .u8 0), .v (.int .u8 0), .v (.int .u8 0), .v (.int .u8 0), .v (.int .u8 0), .v (.int .u8 0), .v (.int .u8 0), .v (.int .u8 0), .v (.int .u8 0), .v (.int .u8 0), .v (.int .u8 0), .v (.int .u8 0), .v (.int .u8 0), .v (.int .u8 0), .v (.int .u8 0)], (.arr 32 5)⟩ := rfl
@[go_sem] theorem TTe88 : TT 88 = some ⟨none, none, 64, 64, true, true, [.v (.int .u8 0), .v (.int .u8 0), .v (.int .u8 0), .v (.int .u8 0), .v (.int .u8 0), .v (.int .u8 0), .v (.int .u8 0), .v (.int .u8 0), .v (.int .u8 0), .v (.int .u8 0), .v (.int .u8 0), .v (.int .u8 0), .v (.int .u8 0), .v (.int .u8 0), .v (.int .u8 0), .v (.int .u8 0), .v (.int .u8 0), .v (.int .u8 0), .v (.int .u8 0), .v (.int .u8 0), .v (.int .u8 0), .v (.int .u8 0), .v (.int .u8 0), .v (.int .u8 0), .v (.int .u8 0), .v (.int .u8 0), .v (.int .u8 0), .v (.int .u8 0), .v (.int .u8 0), .v (.int .u8 0), .v (.int .u8 0), .v (.int .u8 0), .v (.int .u8 0), .v (.int .u8 0), .v (.int .u8 0), .v (.int .u8 0), .v (.int .u8 0), .v (.int .u8 0), .v (.int .u8 0), .v (.int .u8 0), .v (.int .u8 0), .v (.int .u8 0), .v (.int .u8 0), .v (.int .u8 0), .v (.int .u8 0), .v (.int .u8 0), .v (.int .u8 0), .v (.int .u8 0), .v (.int .u8 0), .v (.int .u8 0), .v (.int .u8 0), .v (.int .u8 0), .v (.int .u8 0), .v (.int .u8 0), .v (.int .u8 0), .v (.int .u8 0), .v (.int .u8 0), .v (.int .u8 0), .v (.int .u8 0), .v (.int .u8 0), .v (.int .u8 0), .v (.int .u8 0), .v (.int .u8 0), .v (.int .u8 0)], (.arr 64 5)⟩ := rfl
@[go_sem] theorem TTe89 : TT 89 = some ⟨none, none, 1, 8, false, false, [.v (.pointer none)], .oth⟩ := rfl
@[go_sem] theorem TTe90 : TT 90 = some ⟨none, none, 1, 8, false, false, [.v (.pointer none)], .oth⟩ := rfl
@[go_sem] theorem TTe91 : TT 91 = some ⟨none, (some [.str]), 1, 16, true, true, [.v (.string ⟨#[]⟩)], (.struct [(0, 9)])⟩ := rfl
@[go_sem] theorem TTe92 : TT 92 = some ⟨none, (some [.str]), 1, 16, true, true, [.v (.string ⟨#[]⟩)], (.struct [(0, 9)])⟩ := rfl
theorem TTe : True := trivial
theorem tt2 : TIok Tryd.prog 2 ⟨(some .i64), none, 1, 8, false, true, [.v (.int .i64 0)], .oth⟩ :=
  TIok.mk' (z := ((.int .i64 0))) (by kernel_rfl) (by simp [zOk, Value.cells, Value.oneCell']) rfl (by decide) Tryd.underlying2 trivial rfl (fun k h => by cases h; exact Tryd.underlying2) (fun ks h => by cases h)
theorem tt3 : TIok Tryd.prog 3 ⟨(some .i64), none, 1, 8, false, true, [.v (.int .i64 0)], .oth⟩ :=
  TIok.mk' (z := ((.int .i64 0))) (by kernel_rfl) (by simp [zOk, Value.cells, Value.oneCell']) rfl (by decide) Tryd.underlying3 trivial rfl (fun k h => by cases h; exact Tryd.underlying3) (fun ks h => by cases h)
theorem tt4 : TIok Tryd.prog 4 ⟨none, none, 1, 1, false, true, [.v (.bool false)], .bool⟩ :=
  TIok.mk' (z := ((.bool false))) (by kernel_rfl) (by simp [zOk, Value.cells, Value.oneCell']) rfl (by decide) Tryd.underlying4 rfl rfl (fun k h => by cases h) (fun ks h => by cases h)
theorem tt5 : TIok Tryd.prog 5 ⟨(some .u8), none, 1, 1, false, true, [.v (.int .u8 0)], .oth⟩ :=
  TIok.mk' (z := ((.int .u8 0))) (by kernel_rfl) (by simp [zOk, Value.cells, Value.oneCell']) rfl (by decide) Tryd.underlying5 trivial rfl (fun k h => by cases h; exact Tryd.underlying5) (fun ks h => by cases h)
theorem tt9 : TIok Tryd.prog 9 ⟨none, none, 1, 16, false, true, [.v (.string ⟨#[]⟩)], .str⟩ :=
  TIok.mk' (z := ((.string ⟨#[]⟩))) (by kernel_rfl) (by simp [zOk, Value.cells, Value.oneCell']) rfl (by decide) Tryd.underlying9 rfl rfl (fun k h => by cases h) (fun ks h => by cases h)
theorem tt12 : TIok Tryd.prog 12 ⟨(some .u64), none, 1, 8, false, true, [.v (.int .u64 0)], .oth⟩ :=
  TIok.mk' (z := ((.int .u64 0))) (by kernel_rfl) (by simp [zOk, Value.cells, Value.oneCell']) rfl (by decide) Tryd.underlying12 trivial rfl (fun k h => by cases h; exact Tryd.underlying12) (fun ks h => by cases h)
theorem tt21 : TIok Tryd.prog 21 ⟨(some .i32), none, 1, 4, false, true, [.v (.int .i32 0)], .oth⟩ :=
  TIok.mk' (z := ((.int .i32 0))) (by kernel_rfl) (by simp [zOk, Value.cells, Value.oneCell']) rfl (by decide) Tryd.underlying21 trivial rfl (fun k h => by cases h; exact Tryd.underlying21) (fun ks h => by cases h)
theorem tt22 : TIok Tryd.prog 22 ⟨(some .u16), none, 1, 2, false, true, [.v (.int .u16 0)], .oth⟩ :=
  TIok.mk' (z := ((.int .u16 0))) (by kernel_rfl) (by simp [zOk, Value.cells, Value.oneCell']) rfl (by decide) Tryd.underlying22 trivial rfl (fun k h => by cases h; exact Tryd.underlying22) (fun ks h => by cases h)
theorem tt23 : TIok Tryd.prog 23 ⟨(some .u32), none, 1, 4, false, true, [.v (.int .u32 0)], .oth⟩ :=
  TIok.mk' (z := ((.int .u32 0))) (by kernel_rfl) (by simp [zOk, Value.cells, Value.oneCell']) rfl (by decide) Tryd.underlying23 trivial rfl (fun k h => by cases h; exact Tryd.underlying23) (fun ks h => by cases h)
theorem tt24_eq : EqTy Tryd.prog 2 24 [.int .u16, .int .u32] :=
  eqTy_struct Tryd.underlying24 (by kernel_rfl) (.one rfl rfl Tryd.underlying22 rfl (scEq_int 0 Tryd.underlying22) (.one rfl rfl Tryd.underlying23 rfl (scEq_int 0 Tryd.underlying23) .nil))
theorem tt24 : TIok Tryd.prog 24 ⟨none, (some [.int .u16, .int .u32]), 2, 8, true, true, [.v (.int .u16 0), .v (.int .u32 0)], (.struct [(0, 22), (1, 23)])⟩ :=
  TIok.mk' (z := (.agg #[(.int .u16 0), (.int .u32 0)])) (by kernel_rfl) (by simp [zOk, Value.cells, Value.oneCell']) rfl (by decide) Tryd.underlying24 ⟨_, rfl, rfl⟩ rfl (fun k h => by cases h) (eqk_flat (by kernel_rfl) (by decide) tt24_eq)
theorem tt25_eq : EqTy Tryd.prog 2 25 [.int .u16, .int .u32] :=
  eqTy_struct Tryd.underlying25 (by kernel_rfl) (.one rfl rfl Tryd.underlying22 rfl (scEq_int 0 Tryd.underlying22) (.one rfl rfl Tryd.underlying23 rfl (scEq_int 0 Tryd.underlying23) .nil))
theorem tt25 : TIok Tryd.prog 25 ⟨none, (some [.int .u16, .int .u32]), 2, 8, true, true, [.v (.int .u16 0), .v (.int .u32 0)], (.struct [(0, 22), (1, 23)])⟩ :=
  TIok.mk' (z := (.agg #[(.int .u16 0), (.int .u32 0)])) (by kernel_rfl) (by simp [zOk, Value.cells, Value.oneCell']) rfl (by decide) Tryd.underlying25 ⟨_, rfl, rfl⟩ rfl (fun k h => by cases h) (eqk_flat (by kernel_rfl) (by decide) tt25_eq)
theorem tt29 : TIok Tryd.prog 29 ⟨(some .i64), none, 1, 8, false, true, [.v (.int .i64 0)], .oth⟩ :=
  TIok.mk' (z := ((.int .i64 0))) (by kernel_rfl) (by simp [zOk, Value.cells, Value.oneCell']) rfl (by decide) Tryd.underlying29 trivial rfl (fun k h => by cases h; exact Tryd.underlying29) (fun ks h => by cases h)
theorem tt33_eq : EqTy Tryd.prog 2 33 [.int .u16, .int .u32] :=
  eqTy_struct Tryd.underlying33 (by kernel_rfl) (.one rfl rfl Tryd.underlying22 rfl (scEq_int 0 Tryd.underlying22) (.one rfl rfl Tryd.underlying23 rfl (scEq_int 0 Tryd.underlying23) .nil))
theorem tt33 : TIok Tryd.prog 33 ⟨none, (some [.int .u16, .int .u32]), 2, 8, true, true, [.v (.int .u16 0), .v (.int .u32 0)], (.struct [(0, 22), (1, 23)])⟩ :=
  TIok.mk' (z := (.agg #[(.int .u16 0), (.int .u32 0)])) (by kernel_rfl) (by simp [zOk, Value.cells, Value.oneCell']) rfl (by decide) Tryd.underlying33 ⟨_, rfl, rfl⟩ rfl (fun k h => by cases h) (eqk_flat (by kernel_rfl) (by decide) tt33_eq)
theorem tt41 : TIok Tryd.prog 41 ⟨(some .u64), none, 1, 8, false, true, [.v (.int .u64 0)], .oth⟩ :=
  TIok.mk' (z := ((.int .u64 0))) (by kernel_rfl) (by simp [zOk, Value.cells, Value.oneCell']) rfl (by decide) Tryd.underlying41 trivial rfl (fun k h => by cases h; exact Tryd.underlying41) (fun ks h => by cases h)
theorem tt54 : TIok Tryd.prog 54 ⟨none, none, 1, 24, false, false, [.row 5], (.slice 5)⟩ :=
  TIok.mk' (z := ((.slice none 0 0))) (by kernel_rfl) (by simp [zOk, Value.cells, Value.oneCell']) rfl (by decide) Tryd.underlying54 rfl rfl (fun k h => by cases h) (fun ks h => by cases h)
theorem tt55 : TIok Tryd.prog 55 ⟨none, none, 1, 24, false, false, [.row 3], (.slice 3)⟩ :=
  TIok.mk' (z := ((.slice none 0 0))) (by kernel_rfl) (by simp [zOk, Value.cells, Value.oneCell']) rfl (by decide) Tryd.underlying55 rfl rfl (fun k h => by cases h) (fun ks h => by cases h)
theorem tt59 : TIok Tryd.prog 59 ⟨none, none, 24, 24, true, true, [.v (.int .u8 0), .v (.int .u8 0), .v (.int .u8 0), .v (.int .u8 0), .v (.int .u8 0), .v (.int .u8 0), .v (.int .u8 0), .v (.int .u8 0), .v (.int .u8 0), .v (.int .u8 0), .v (.int .u8 0), .v (.int .u8 0), .v (.int .u8 0), .v (.int .u8 0), .v (.int .u8 0), .v (.int .u8 0), .v (.int .u8 0), .v (.int .u8 0), .v (.int .u8 0), .v (.int .u8 0), .v (.int .u8 0), .v (.int .u8 0), .v (.int .u8 0), .v (.int .u8 0)], (.arr 24 5)⟩ :=
  TIok.mk' (z := (.agg #[(.int .u8 0), (.int .u8 0), (.int .u8 0), (.int .u8 0), (.int .u8 0), (.int .u8 0), (.int .u8 0), (.int .u8 0), (.int .u8 0), (.int .u8 0), (.int .u8 0), (.int .u8 0), (.int .u8 0), (.int .u8 0), (.int .u8 0), (.int .u8 0), (.int .u8 0), (.int .u8 0), (.int .u8 0), (.int .u8 0), (.int .u8 0), (.int .u8 0), (.int .u8 0), (.int .u8 0)])) (by kernel_rfl) (by simp [zOk, Value.cells, Value.oneCell']) rfl (by decide) Tryd.underlying59 rfl rfl (fun k h => by cases h) (fun ks h => by cases h)
theorem tt68 : TIok Tryd.prog 68 ⟨none, none, 20, 160, true, true, [.v (.int .u64 0), .v (.int .u64 0), .v (.int .u64 0), .v (.int .u64 0), .v (.int .u64 0), .v (.int .u64 0), .v (.int .u64 0), .v (.int .u64 0), .v (.int .u64 0), .v (.int .u64 0), .v (.int .u64 0), .v (.int .u64 0), .v (.int .u64 0), .v (.int .u64 0), .v (.int .u64 0), .v (.int .u64 0), .v (.int .u64 0), .v (.int .u64 0), .v (.int .u64 0), .v (.int .u64 0)], (.arr 20 41)⟩ :=
  TIok.mk' (z := (.agg #[(.int .u64 0), (.int .u64 0), (.int .u64 0), (.int .u64 0), (.int .u64 0), (.int .u64 0), (.int .u64 0), (.int .u64 0), (.int .u64 0), (.int .u64 0), (.int .u64 0), (.int .u64 0), (.int .u64 0), (.int .u64 0), (.int .u64 0), (.int .u64 0), (.int .u64 0), (.int .u64 0), (.int .u64 0), (.int .u64 0)])) (by kernel_rfl) (by simp [zOk, Value.cells, Value.oneCell']) rfl (by decide) Tryd.underlying68 rfl rfl (fun k h => by cases h) (fun ks h => by cases h)
theorem tt71 : TIok Tryd.prog 71 ⟨(some .u64), none, 1, 8, false, true, [.v (.int .u64 0)], .oth⟩ :=
  TIok.mk' (z := ((.int .u64 0))) (by kernel_rfl) (by simp [zOk, Value.cells, Value.oneCell']) rfl (by decide) Tryd.underlying71 trivial rfl (fun k h => by cases h; exact Tryd.underlying71) (fun ks h => by cases h)
theorem tt77 : TIok Tryd.prog 77 ⟨none, none, 1, 8, false, false, [.v (.pointer none)], .oth⟩ :=
  TIok.mk' (z := ((.pointer none))) (by kernel_rfl) (by simp [zOk, Value.cells, Value.oneCell']) rfl (by decide) Tryd.underlying77 trivial rfl (fun k h => by cases h) (fun ks h => by cases h)
theorem tt87 : TIok Tryd.prog 87 ⟨none, none, 32, 32, true, true, [.v (.int .u8 0), .v (.int .u8 0), .v (.int .u8 0), .v (.int .u8 0), .v (.int .u8 0), .v (.int .u8 0), .v (.int .u8 0), .v (.int .u8 0), .v (.int .u8 0), .v (.int .u8 0), .v (.int .u8 0), .v (.int .u8 0), .v (.int .u8 0), .v (.int .u8 0), .v (.int .u8 0), .v (.int .u8 0), .v (.int .u8 0), .v (.int .u8 0), .v (.int .u8 0), .v (.int .u8 0), .v (.int .u8 0), .v (.int .u8 0), .v (.int .u8 0), .v (.int .u8 0), .v (.int .u8 0), .v (.int .u8 0), .v (.int .u8 0), .v (.int .u8 0), .v (.int .u8 0), .v (.int .u8 0), .v (.int .u8 0), .v (.int .u8 0)], (.arr 32 5)⟩ :=
  TIok.mk' (z := (.agg #[(.int .u8 0), (.int .u8 0), (.int .u8 0), (.int .u8 0), (.int .u8 0), (.int .u8 0), (.int .u8 0), (.int .u8 0), (.int .u8 0), (.int .u8 0), (.int .u8 0), (.int .u8 0), (.int .u8 0), (.int .u8 0), (.int .u8 0), (.int .u8 0), (.int .u8 0), (.int .u8 0), (.int .u8 0), (.int .u8 0), (.int .u8 0), (.int .u8 0), (.int .u8 0), (.int .u8 0), (.int .u8 0), (.int .u8 0), (.int .u8 0), (.int .u8 0), (.int .u8 0), (.int .u8 0), (.int .u8 0), (.int .u8 0)])) (by kernel_rfl) (by simp [zOk, Value.cells, Value.oneCell']) rfl (by decide) Tryd.underlying87 rfl rfl (fun k h => by cases h) (fun ks h => by cases h)
theorem tt88 : TIok Tryd.prog 88 ⟨none, none, 64, 64, true, true, [.v (.int .u8 0), .v (.int .u8 0), .v (.int .u8 0), .v (.int .u8 0), .v (.int .u8 0), .v (.int .u8 0), .v (.int .u8 0), .v (.int .u8 0), .v (.int .u8 0), .v (.int .u8 0), .v (.int .u8 0), .v (.int .u8 0), .v (.int .u8 0), .v (.int .u8 0), .v (.int .u8 0), .v (.int .u8 0), .v (.int .u8 0), .v (.int .u8 0), .v (.int .u8 0), .v (.int .u8 0), .v (.int .u8 0), .v (.int .u8 0), .v (.int .u8 0), .v (.int .u8 0), .v (.int .u8 0), .v (.int .u8 0), .v (.int .u8 0), .v (.int .u8 0), .v (.int .u8 0), .v (.int .u8 0), .v (.int .u8 0), .v (.int .u8 0), .v (.int .u8 0), .v (.int .u8 0), .v (.int .u8 0), .v (.int .u8 0), .v (.int .u8 0), .v (.int .u8 0), .v (.int .u8 0), .v (.int .u8 0), .v (.int .u8 0), .v (.int .u8 0), .v (.int .u8 0), .v (.int .u8 0), .v (.int .u8 0), .v (.int .u8 0), .v (.int .u8 0), .v (.int .u8 0), .v (.int .u8 0), .v (.int .u8 0), .v (.int .u8 0), .v (.int .u8 0), .v (.int .u8 0), .v (.int .u8 0), .v (.int .u8 0), .v (.int .u8 0), .v (.int .u8 0), .v (.int .u8 0), .v (.int .u8 0), .v (.int .u8 0), .v (.int .u8 0), .v (.int .u8 0), .v (.int .u8 0), .v (.int .u8 0)], (.arr 64 5)⟩ :=
  TIok.mk' (z := (.agg #[(.int .u8 0), (.int .u8 0), (.int .u8 0), (.int .u8 0), (.int .u8 0), (.int .u8 0), (.int .u8 0), (.int .u8 0), (.int .u8 0), (.int .u8 0), (.int .u8 0), (.int .u8 0), (.int .u8 0), (.int .u8 0), (.int .u8 0), (.int .u8 0), (.int .u8 0), (.int .u8 0), (.int .u8 0), (.int .u8 0), (.int .u8 0), (.int .u8 0), (.int .u8 0), (.int .u8 0), (.int .u8 0), (.int .u8 0), (.int .u8 0), (.int .u8 0), (.int .u8 0), (.int .u8 0), (.int .u8 0), (.int .u8 0), (.int .u8 0), (.int .u8 0), (.int .u8 0), (.int .u8 0), (.int .u8 0), (.int .u8 0), (.int .u8 0), (.int .u8 0), (.int .u8 0), (.int .u8 0), (.int .u8 0), (.int .u8 0), (.int .u8 0), (.int .u8 0), (.int .u8 0), (.int .u8 0), (.int .u8 0), (.int .u8 0), (.int .u8 0), (.int .u8 0), (.int .u8 0), (.int .u8 0), (.int .u8 0), (.int .u8 0), (.int .u8 0), (.int .u8 0), (.int .u8 0), (.int .u8 0), (.int .u8 0), (.int .u8 0), (.int .u8 0), (.int .u8 0)])) (by kernel_rfl) (by simp [zOk, Value.cells, Value.oneCell']) rfl (by decide) Tryd.underlying88 rfl rfl (fun k h => by cases h) (fun ks h => by cases h)
theorem tt89 : TIok Tryd.prog 89 ⟨none, none, 1, 8, false, false, [.v (.pointer none)], .oth⟩ :=
  TIok.mk' (z := ((.pointer none))) (by kernel_rfl) (by simp [zOk, Value.cells, Value.oneCell']) rfl (by decide) Tryd.underlying89 trivial rfl (fun k h => by cases h) (fun ks h => by cases h)
theorem tt90 : TIok Tryd.prog 90 ⟨none, none, 1, 8, false, false, [.v (.pointer none)], .oth⟩ :=
  TIok.mk' (z := ((.pointer none))) (by kernel_rfl) (by simp [zOk, Value.cells, Value.oneCell']) rfl (by decide) Tryd.underlying90 trivial rfl (fun k h => by cases h) (fun ks h => by cases h)
theorem tt91_eq : EqTy Tryd.prog 2 91 [.str] :=
  eqTy_struct Tryd.underlying91 (by kernel_rfl) (.one rfl rfl Tryd.underlying9 rfl (scEq_str 0 Tryd.underlying9) .nil)
theorem tt91 : TIok Tryd.prog 91 ⟨none, (some [.str]), 1, 16, true, true, [.v (.string ⟨#[]⟩)], (.struct [(0, 9)])⟩ :=
  TIok.mk' (z := (.agg #[(.string ⟨#[]⟩)])) (by kernel_rfl) (by simp [zOk, Value.cells, Value.oneCell']) rfl (by decide) Tryd.underlying91 ⟨_, rfl, rfl⟩ rfl (fun k h => by cases h) (eqk_flat (by kernel_rfl) (by decide) tt91_eq)
theorem tt92_eq : EqTy Tryd.prog 2 92 [.str] :=
  eqTy_struct Tryd.underlying92 (by kernel_rfl) (.one rfl rfl Tryd.underlying9 rfl (scEq_str 0 Tryd.underlying9) .nil)
theorem tt92 : TIok Tryd.prog 92 ⟨none, (some [.str]), 1, 16, true, true, [.v (.string ⟨#[]⟩)], (.struct [(0, 9)])⟩ :=
  TIok.mk' (z := (.agg #[(.string ⟨#[]⟩)])) (by kernel_rfl) (by simp [zOk, Value.cells, Value.oneCell']) rfl (by decide) Tryd.underlying92 ⟨_, rfl, rfl⟩ rfl (fun k h => by cases h) (eqk_flat (by kernel_rfl) (by decide) tt92_eq)
theorem ttok : TTok Tryd.prog TT := by
  intro t i h
  unfold TT at h
  split at h <;> first | (cases h; done) | (cases h; first | exact tt2 | exact tt3 | exact tt4 | exact tt5 | exact tt9 | exact tt12 | exact tt21 | exact tt22 | exact tt23 | exact tt24 | exact tt25 | exact tt29 | exact tt33 | exact tt41 | exact tt54 | exact tt55 | exact tt59 | exact tt68 | exact tt71 | exact tt77 | exact tt87 | exact tt88 | exact tt89 | exact tt90 | exact tt91 | exact tt92)
theorem mixed : Tryd.prog.follows .mixedOrders = true := by kernel_rfl
theorem ent3 : Ent Tryd.prog 3 := ⟨_, Tryd.func3, by kernel_rfl, rfl⟩
theorem ent4 : Ent Tryd.prog 4 := ⟨_, Tryd.func4, by kernel_rfl, rfl⟩
theorem ent5 : Ent Tryd.prog 5 := ⟨_, Tryd.func5, by kernel_rfl, rfl⟩
theorem ent6 : Ent Tryd.prog 6 := ⟨_, Tryd.func6, by kernel_rfl, rfl⟩
theorem ent7 : Ent Tryd.prog 7 := ⟨_, Tryd.func7, by kernel_rfl, rfl⟩
theorem ent8 : Ent Tryd.prog 8 := ⟨_, Tryd.func8, by kernel_rfl, rfl⟩
theorem ent9 : Ent Tryd.prog 9 := ⟨_, Tryd.func9, by kernel_rfl, rfl⟩
theorem ent10 : Ent Tryd.prog 10 := ⟨_, Tryd.func10, by kernel_rfl, rfl⟩
theorem ent11 : Ent Tryd.prog 11 := ⟨_, Tryd.func11, by kernel_rfl, rfl⟩
theorem ent12 : Ent Tryd.prog 12 := ⟨_, Tryd.func12, by kernel_rfl, rfl⟩
theorem ent13 : Ent Tryd.prog 13 := ⟨_, Tryd.func13, by kernel_rfl, rfl⟩
theorem ent14 : Ent Tryd.prog 14 := ⟨_, Tryd.func14, by kernel_rfl, rfl⟩
theorem ent15 : Ent Tryd.prog 15 := ⟨_, Tryd.func15, by kernel_rfl, rfl⟩
theorem ent16 : Ent Tryd.prog 16 := ⟨_, Tryd.func16, by kernel_rfl, rfl⟩
theorem ent17 : Ent Tryd.prog 17 := ⟨_, Tryd.func17, by kernel_rfl, rfl⟩
theorem ent18 : Ent Tryd.prog 18 := ⟨_, Tryd.func18, by kernel_rfl, rfl⟩
theorem ent19 : Ent Tryd.prog 19 := ⟨_, Tryd.func19, by kernel_rfl, rfl⟩
theorem ent20 : Ent Tryd.prog 20 := ⟨_, Tryd.func20, by kernel_rfl, rfl⟩
theorem ent21 : Ent Tryd.prog 21 := ⟨_, Tryd.func21, by kernel_rfl, rfl⟩
theorem ent22 : Ent Tryd.prog 22 := ⟨_, Tryd.func22, by kernel_rfl, rfl⟩
theorem ent23 : Ent Tryd.prog 23 := ⟨_, Tryd.func23, by kernel_rfl, rfl⟩
theorem ent24 : Ent Tryd.prog 24 := ⟨_, Tryd.func24, by kernel_rfl, rfl⟩
theorem ent25 : Ent Tryd.prog 25 := ⟨_, Tryd.func25, by kernel_rfl, rfl⟩
theorem ent26 : Ent Tryd.prog 26 := ⟨_, Tryd.func26, by kernel_rfl, rfl⟩
theorem ent27 : Ent Tryd.prog 27 := ⟨_, Tryd.func27, by kernel_rfl, rfl⟩
theorem ent28 : Ent Tryd.prog 28 := ⟨_, Tryd.func28, by kernel_rfl, rfl⟩
theorem ent29 : Ent Tryd.prog 29 := ⟨_, Tryd.func29, by kernel_rfl, rfl⟩
theorem ent30 : Ent Tryd.prog 30 := ⟨_, Tryd.func30, by kernel_rfl, rfl⟩
theorem ent31 : Ent Tryd.prog 31 := ⟨_, Tryd.func31, by kernel_rfl, rfl⟩
theorem ent32 : Ent Tryd.prog 32 := ⟨_, Tryd.func32, by kernel_rfl, rfl⟩
theorem ent33 : Ent Tryd.prog 33 := ⟨_, Tryd.func33, by kernel_rfl, rfl⟩
theorem ent34 : Ent Tryd.prog 34 := ⟨_, Tryd.func34, by kernel_rfl, rfl⟩
theorem ent35 : Ent Tryd.prog 35 := ⟨_, Tryd.func35, by kernel_rfl, rfl⟩
theorem ent36 : Ent Tryd.prog 36 := ⟨_, Tryd.func36, by kernel_rfl, rfl⟩
theorem ent37 : Ent Tryd.prog 37 := ⟨_, Tryd.func37, by kernel_rfl, rfl⟩
theorem ent38 : Ent Tryd.prog 38 := ⟨_, Tryd.func38, by kernel_rfl, rfl⟩
theorem ent39 : Ent Tryd.prog 39 := ⟨_, Tryd.func39, by kernel_rfl, rfl⟩
theorem ent41 : Ent Tryd.prog 41 := ⟨_, Tryd.func41, by kernel_rfl, rfl⟩
theorem ent42 : Ent Tryd.prog 42 := ⟨_, Tryd.func42, by kernel_rfl, rfl⟩
theorem ent43 : Ent Tryd.prog 43 := ⟨_, Tryd.func43, by kernel_rfl, rfl⟩
theorem ent44 : Ent Tryd.prog 44 := ⟨_, Tryd.func44, by kernel_rfl, rfl⟩
theorem ent45 : Ent Tryd.prog 45 := ⟨_, Tryd.func45, by kernel_rfl, rfl⟩
theorem ent46 : Ent Tryd.prog 46 := ⟨_, Tryd.func46, by kernel_rfl, rfl⟩
theorem ent47 : Ent Tryd.prog 47 := ⟨_, Tryd.func47, by kernel_rfl, rfl⟩
theorem ent48 : Ent Tryd.prog 48 := ⟨_, Tryd.func48, by kernel_rfl, rfl⟩
theorem ent49 : Ent Tryd.prog 49 := ⟨_, Tryd.func49, by kernel_rfl, rfl⟩
theorem ent50 : Ent Tryd.prog 50 := ⟨_, Tryd.func50, by kernel_rfl, rfl⟩
theorem ent52 : Ent Tryd.prog 52 := ⟨_, Tryd.func52, by kernel_rfl, rfl⟩
theorem ent53 : Ent Tryd.prog 53 := ⟨_, Tryd.func53, by kernel_rfl, rfl⟩
theorem ent54 : Ent Tryd.prog 54 := ⟨_, Tryd.func54, by kernel_rfl, rfl⟩
theorem ent55 : Ent Tryd.prog 55 := ⟨_, Tryd.func55, by kernel_rfl, rfl⟩
theorem ent56 : Ent Tryd.prog 56 := ⟨_, Tryd.func56, by kernel_rfl, rfl⟩
theorem ent57 : Ent Tryd.prog 57 := ⟨_, Tryd.func57, by kernel_rfl, rfl⟩
theorem ent85 : Ent Tryd.prog 85 := ⟨_, Tryd.func85, by kernel_rfl, rfl⟩
end Go.Proofs.YtffdiicflahjfaaDoor
