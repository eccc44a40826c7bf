import Derived.Test.YtgomhljgjmjgfaaDoorProg
import Derived.Lib.ItoaNum
import Derived.Shelf.LaysM
import Derived.Shelf.Strconv.Itoa3
import Derived.Shelf.Pu.ErrVarParseUint
import Derived.Shelf.Strings.Search2
import Derived.Shelf.Strings.Cut
import Derived.Shelf.Strconv.AppendUint10
import Derived.Lib.AppendIntMem
import Derived.Lib.ParseIntB
import Derived.Lib.IndexMore
import Derived.Test.YtgomhljgjmjgfaaDoorLA3
import Derived.Test.YtgomhljgjmjgfaaDoorLA2
set_option linter.unusedVariables false
set_option linter.unusedSimpArgs false
/- PRINTED BY wip/tools/mktt.py: what the evaluator knows of the types of the program YtgomhljgjmjgfaaDoor. -/
namespace Go.Proofs.YtgomhljgjmjgfaaDoor
open Go Go.Lift
set_option maxRecDepth 20000

def TT : TTab := fun t => match t with
  | 2 => some ⟨(some .i64), none, 1, 8, false, true, [.v (.int .i64 0)], .oth⟩
  | 3 => some ⟨(some .i64), none, 1, 8, false, true, [.v (.int .i64 0)], .oth⟩
  | 4 => some ⟨none, none, 1, 1, false, true, [.v (.bool false)], .bool⟩
  | 5 => some ⟨(some .u8), none, 1, 1, false, true, [.v (.int .u8 0)], .oth⟩
  | 9 => some ⟨none, none, 1, 16, false, true, [.v (.string ⟨#[]⟩)], .str⟩
  | 12 => some ⟨(some .u64), none, 1, 8, false, true, [.v (.int .u64 0)], .oth⟩
  | 21 => some ⟨(some .i32), none, 1, 4, false, true, [.v (.int .i32 0)], .oth⟩
  | 22 => some ⟨(some .u16), none, 1, 2, false, true, [.v (.int .u16 0)], .oth⟩
  | 23 => some ⟨(some .u32), none, 1, 4, false, true, [.v (.int .u32 0)], .oth⟩
  | 24 => some ⟨none, (some [.int .u16, .int .u32]), 2, 8, true, true, [.v (.int .u16 0), .v (.int .u32 0)], (.struct [(0, 22), (1, 23)])⟩
  | 25 => some ⟨none, (some [.int .u16, .int .u32]), 2, 8, true, true, [.v (.int .u16 0), .v (.int .u32 0)], (.struct [(0, 22), (1, 23)])⟩
  | 28 => some ⟨(some .i64), none, 1, 8, false, true, [.v (.int .i64 0)], .oth⟩
  | 32 => some ⟨none, (some [.int .u16, .int .u32]), 2, 8, true, true, [.v (.int .u16 0), .v (.int .u32 0)], (.struct [(0, 22), (1, 23)])⟩
  | 40 => some ⟨(some .u64), none, 1, 8, false, true, [.v (.int .u64 0)], .oth⟩
  | 53 => some ⟨none, none, 1, 24, false, false, [.row 5], (.slice 5)⟩
  | 54 => some ⟨none, none, 1, 24, false, false, [.row 3], (.slice 3)⟩
  | 58 => some ⟨none, none, 24, 24, true, true, [.v (.int .u8 0), .v (.int .u8 0), .v (.int .u8 0), .v (.int .u8 0), .v (.int .u8 0), .v (.int .u8 0), .v (.int .u8 0), .v (.int .u8 0), .v (.int .u8 0), .v (.int .u8 0), .v (.int .u8 0), .v (.int .u8 0), .v (.int .u8 0), .v (.int .u8 0), .v (.int .u8 0), .v (.int .u8 0), .v (.int .u8 0), .v (.int .u8 0), .v (.int .u8 0), .v (.int .u8 0), .v (.int .u8 0), .v (.int .u8 0), .v (.int .u8 0), .v (.int .u8 0)], (.arr 24 5)⟩
  | 67 => some ⟨none, none, 20, 160, true, true, [.v (.int .u64 0), .v (.int .u64 0), .v (.int .u64 0), .v (.int .u64 0), .v (.int .u64 0), .v (.int .u64 0), .v (.int .u64 0), .v (.int .u64 0), .v (.int .u64 0), .v (.int .u64 0), .v (.int .u64 0), .v (.int .u64 0), .v (.int .u64 0), .v (.int .u64 0), .v (.int .u64 0), .v (.int .u64 0), .v (.int .u64 0), .v (.int .u64 0), .v (.int .u64 0), .v (.int .u64 0)], (.arr 20 40)⟩
  | 70 => some ⟨(some .u64), none, 1, 8, false, true, [.v (.int .u64 0)], .oth⟩
  | 76 => some ⟨none, none, 1, 8, false, false, [.v (.pointer none)], .oth⟩
  | 86 => some ⟨none, none, 32, 32, true, true, [.v (.int .u8 0), .v (.int .u8 0), .v (.int .u8 0), .v (.int .u8 0), .v (.int .u8 0), .v (.int .u8 0), .v (.int .u8 0), .v (.int .u8 0), .v (.int .u8 0), .v (.int .u8 0), .v (.int .u8 0), .v (.int .u8 0), .v (.int .u8 0), .v (.int .u8 0), .v (.int .u8 0), .v (.int .u8 0), .v (.int .u8 0), .v (.int .u8 0), .v (.int .u8 0), .v (.int .u8 0), .v (.int .u8 0), .v (.int .u8 0), .v (.int .u8 0), .v (.int .u8 0), .v (.int .u8 0), .v (.int .u8 0), .v (.int .u8 0), .v (.int .u8 0), .v (.int .u8 0), .v (.int .u8 0), .v (.int .u8 0), .v (.int .u8 0)], (.arr 32 5)⟩
  | 87 => some ⟨none, none, 64, 64, true, true, [.v (.int .u8 0), .v (.int .u8 0), .v (.int .u8 0), .v (.int .u8 0), .v (.int .u8 0), .v (.int .u8 0), .v (.int .u8 0), .v (.int .u8 0), .v (.int .u8 0), .v (.int .u8 0), .v (.int .u8 0), .v (.int .u8 0), .v (.int .u8 0), .v (.int .u8 0), .v (.int .u8 0), .v (.int .u8 0), .v (.int .u8 0), .v (.int .u8 0), .v (.int .u8 0), .v (.int .u8 0), .v (.int .u8 0), .v (.int .u8 0), .v (.int .u8 0), .v (.int .u8 0), .v (.int .u8 0), .v (.int .u8 0), .v (.int .u8 0), .v (.int .u8 0), .v (.int .u8 0), .v (.int .u8 0), .v (.int .u8 0), .v (.int .u8 0), .v (.int .u8 0), .v (.int .u8 0), .v (.int .u8 0), .v (.int .u8 0), .v (.int .u8 0), .v (.int .u8 0), .v (.int .u8 0), .v (.int .u8 0), .v (.int .u8 0), .v (.int .u8 0), .v (.int .u8 0), .v (.int .u8 0), .v (.int .u8 0), .v (.int .u8 0), .v (.int .u8 0), .v (.int .u8 0), .v (.int .u8 0), .v (.int .u8 0), .v (.int .u8 0), .v (.int .u8 0), .v (.int .u8 0), .v (.int .u8 0), .v (.int .u8 0), .v (.int .u8 0), .v (.int .u8 0), .v (.int .u8 0), .v (.int .u8 0), .v (.int .u8 0), .v (.int .u8 0), .v (.int .u8 0), .v (.int .u8 0), .v (.int .u8 0)], (.arr 64 5)⟩
  | 88 => some ⟨none, none, 1, 8, false, false, [.v (.pointer none)], .oth⟩
  | 89 => some ⟨none, none, 1, 8, false, false, [.v (.pointer none)], .oth⟩
  | 90 => some ⟨none, (some [.str]), 1, 16, true, true, [.v (.string ⟨#[]⟩)], (.struct [(0, 9)])⟩
  | 91 => some ⟨none, (some [.str]), 1, 16, true, true, [.v (.string ⟨#[]⟩)], (.struct [(0, 9)])⟩
  | _ => none

@[go_sem] theorem TTe2 : TT 2 = some ⟨(some .i64), none, 1, 8, false, true, [.v (.int .i64 0)], .oth⟩ := rfl
@[go_sem] theorem TTe3 : TT 3 = some ⟨(some .i64), none, 1, 8, false, true, [.v (.int .i64 0)], .oth⟩ := rfl
@[go_sem] theorem TTe4 : TT 4 = some ⟨none, none, 1, 1, false, true, [.v (.bool false)], .bool⟩ := rfl
@[go_sem] theorem TTe5 : TT 5 = some ⟨(some .u8), none, 1, 1, false, true, [.v (.int .u8 0)], .oth⟩ := rfl
@[go_sem] theorem TTe9 : TT 9 = some ⟨none, none, 1, 16, false, true, [.v (.string ⟨#[]⟩)], .str⟩ := rfl
@[go_sem] theorem TTe12 : TT 12 = some ⟨(some .u64), none, 1, 8, false, true, [.v (.int .u64 0)], .oth⟩ := rfl
@[go_sem] theorem TTe21 : TT 21 = some ⟨(some .i32), none, 1, 4, false, true, [.v (.int .i32 0)], .oth⟩ := rfl
@[go_sem] theorem TTe22 : TT 22 = some ⟨(some .u16), none, 1, 2, false, true, [.v (.int .u16 0)], .oth⟩ := rfl
@[go_sem] theorem TTe23 : TT 23 = some ⟨(some .u32), none, 1, 4, false, true, [.v (.int .u32 0)], .oth⟩ := rfl
@[go_sem] theorem TTe24 : TT 24 = some ⟨none, (some [.int .u16, .int .u32]), 2, 8, true, true, [.v (.int .u16 0), .v (.int .u32 0)], (.struct [(0, 22), (1, 23)])⟩ := rfl
@[go_sem] theorem TTe25 : TT 25 = some ⟨none, (some [.int .u16, .int .u32]), 2, 8, true, true, [.v (.int .u16 0), .v (.int .u32 0)], (.struct [(0, 22), (1, 23)])⟩ := rfl
@[go_sem] theorem TTe28 : TT 28 = some ⟨(some .i64), none, 1, 8, false, true, [.v (.int .i64 0)], .oth⟩ := rfl
@[go_sem] theorem TTe32 : TT 32 = some ⟨none, (some [.int .u16, .int .u32]), 2, 8, true, true, [.v (.int .u16 0), .v (.int .u32 0)], (.struct [(0, 22), (1, 23)])⟩ := rfl
@[go_sem] theorem TTe40 : TT 40 = some ⟨(some .u64), none, 1, 8, false, true, [.v (.int .u64 0)], .oth⟩ := rfl
@[go_sem] theorem TTe53 : TT 53 = some ⟨none, none, 1, 24, false, false, [.row 5], (.slice 5)⟩ := rfl
@[go_sem] theorem TTe54 : TT 54 = some ⟨none, none, 1, 24, false, false, [.row 3], (.slice 3)⟩ := rfl
@[go_sem] theorem TTe58 : TT 58 = some ⟨none, none, 24, 24, true, true, [.v (.int .u8 0), .v (.int .u8 0), .v (.int .u8 0), .v (.int .u8 0), .v (.int .u8 0), .v (.int .u8 0), .v (.int .u8 0), .v (.int .u8 0), .v (.int .u8 0), .v (.int .u8 0), .v (.int .u8 0), .v (.int .u8 0), .v (.int .u8 0), .v (.int .u8 0), .v (.int .u8 0), .v (.int .u8 0), .v (.int .u8 0), .v (.int .u8 0), .v (.int .u8 0), .v (.int .u8 0), .v (.int .u8 0), .v (.int .u8 0), .v (.int .u8 0), .v (.int .u8 0)], (.arr 24 5)⟩ := rfl
@[go_sem] theorem TTe67 : TT 67 = some ⟨none, none, 20, 160, true, true, [.v (.int .u64 0), .v (.int .u64 0), .v (.int .u64 0), .v (.int .u64 0), .v (.int .u64 0), .v (.int .u64 0), .v (.int .u64 0), .v (.int .u64 0), .v (.int .u64 0), .v (.int .u64 0), .v (.int .u64 0), .v (.int .u64 0), .v (.int .u64 0), .v (.int .u64 0), .v (.int .u64 0), .v (.int .u64 0), .v (.int .u64 0), .v (.int .u64 0), .v (.int .u64 0), .v (.int .u64 0)], (.arr 20 40)⟩ := rfl
@[go_sem] theorem TTe70 : TT 70 = some ⟨(some .u64), none, 1, 8, false, true, [.v (.int .u64 0)], .oth⟩ := rfl
@[go_sem] theorem TTe76 : TT 76 = some ⟨none, none, 1, 8, false, false, [.v (.pointer none)], .oth⟩ := rfl
@[go_sem] theorem TTe86 : TT 86 = some ⟨none, none, 32, 32, true, true, [.v (.int .u8 0), .v (.int .u8 0), .v (.int .u8 0), .v (.int .u8 0), .v (.int .u8 0), .v (.int .u8 0), .v (.int .u8 0), .v (.int .u8 0), .v (.int .u8 0), .v (.int .u8 0), .v (.int .u8 0), .v (.int .u8 0), .v (.int .u8 0), .v (.int .u8 0), .v (.int .u8 0), .v (.int .u8 0), .v (.int .u8 0), .v (.int .u8 0), .v (.int .u8 0), .v (.int .u8 0), .v (.int .u8 0), .v (.int .u8 0), .v (.int .u8 0), .v (.int .u8 0), .v (.int .u8 0), .v (.int .u8 0), .v (.int .u8 0), .v (.int .u8 0), .v (.int .u8 0), .v (.int .u8 0), .v (.int .u8 0), .v (.int .u8 0)], (.arr 32 5)⟩ := rfl
@[go_sem] theorem TTe87 : TT 87 = some ⟨none, none, 64, 64, true, true, [.v (.int .u8 0), .v (.int .u8 0), .v (.int .u8 0), .v (.int .u8 0), .v (.int .u8 0), .v (.int .u8 0), .v (.int .u8 0), .v (.int .u8 0), .v (.int .u8 0), .v (.int .u8 0), .v (.int .u8 0), .v (.int .u8 0), .v (.int .u8 0), .v (.int .u8 0), .v (.int .u8 0), .v (.int .u8 0), .v (.int .u8 0), .v (.int .u8 0), .v (.int .u8 0), .v (.int .u8 0), .v (.int .u8 0), .v (.int .u8 0), .v (.int .u8 0), .v (.int .u8 0), .v (.int .u8 0), .v (.int .u8 0), .v (.int .u8 0), .v (.int .u8 0), .v (.int .u8 0), .v (.int .u8 0), .v (.int .u8 0), .v (.int .u8 0), .v (.int .u8 0), .v (.int .u8 0), .v (.int .u8 0), .v (.int .u8 0), .v (.int .u8 0), .v (.int .u8 0), .v (.int .u8 0), .v (.int .u8 0), .v (.int .u8 0), .v (.int .u8 0), .v (.int .u8 0), .v (.int .u8 0), .v (.int .u8 0), .v (.int .u8 0), .v (.int .u8 0), .v (.int .u8 0), .v (.int .u8 0), .v (.int .u8 0), .v (.int .u8 0), .v (.int .u8 0), .v (.int .u8 0), .v (.int .u8 0), .v (.int .u8 0), .v (.int .u8 0), .v (.int .u8 0), .v (.int .u8 0), .v (.int .u8 0), .v (.int .u8 0), .v (.int .u8 0), .v (.int .u8 0), .v (.int .u8 0), .v (.int .u8 0)], (.arr 64 5)⟩ := rfl
@[go_sem] theorem TTe88 : TT 88 = some ⟨none, none, 1, 8, false, false, [.v (.pointer none)], .oth⟩ := rfl
@[go_sem] theorem TTe89 : TT 89 = some ⟨none, none, 1, 8, false, false, [.v (.pointer none)], .oth⟩ := rfl
@[go_sem] theorem TTe90 : TT 90 = some ⟨none, (some [.str]), 1, 16, true, true, [.v (.string ⟨#[]⟩)], (.struct [(0, 9)])⟩ := rfl
@[go_sem] theorem TTe91 : TT 91 = some ⟨none, (some [.str]), 1, 16, true, true, [.v (.string ⟨#[]⟩)], (.struct [(0, 9)])⟩ := rfl
theorem tt2 : TIok Tryd.prog 2 ⟨(some .i64), none, 1, 8, false, true, [.v (.int .i64 0)], .oth⟩ :=
  TIok.mk' (z := ((.int .i64 0))) (by kernel_rfl) (by simp [zOk, Value.cells, Value.oneCell']) rfl (by decide) Tryd.underlying2 trivial rfl (fun k h => by cases h; exact Tryd.underlying2) (fun ks h => by cases h)
theorem tt3 : TIok Tryd.prog 3 ⟨(some .i64), none, 1, 8, false, true, [.v (.int .i64 0)], .oth⟩ :=
  TIok.mk' (z := ((.int .i64 0))) (by kernel_rfl) (by simp [zOk, Value.cells, Value.oneCell']) rfl (by decide) Tryd.underlying3 trivial rfl (fun k h => by cases h; exact Tryd.underlying3) (fun ks h => by cases h)
theorem tt4 : TIok Tryd.prog 4 ⟨none, none, 1, 1, false, true, [.v (.bool false)], .bool⟩ :=
  TIok.mk' (z := ((.bool false))) (by kernel_rfl) (by simp [zOk, Value.cells, Value.oneCell']) rfl (by decide) Tryd.underlying4 rfl rfl (fun k h => by cases h) (fun ks h => by cases h)
theorem tt5 : TIok Tryd.prog 5 ⟨(some .u8), none, 1, 1, false, true, [.v (.int .u8 0)], .oth⟩ :=
  TIok.mk' (z := ((.int .u8 0))) (by kernel_rfl) (by simp [zOk, Value.cells, Value.oneCell']) rfl (by decide) Tryd.underlying5 trivial rfl (fun k h => by cases h; exact Tryd.underlying5) (fun ks h => by cases h)
theorem tt9 : TIok Tryd.prog 9 ⟨none, none, 1, 16, false, true, [.v (.string ⟨#[]⟩)], .str⟩ :=
  TIok.mk' (z := ((.string ⟨#[]⟩))) (by kernel_rfl) (by simp [zOk, Value.cells, Value.oneCell']) rfl (by decide) Tryd.underlying9 rfl rfl (fun k h => by cases h) (fun ks h => by cases h)
theorem tt12 : TIok Tryd.prog 12 ⟨(some .u64), none, 1, 8, false, true, [.v (.int .u64 0)], .oth⟩ :=
  TIok.mk' (z := ((.int .u64 0))) (by kernel_rfl) (by simp [zOk, Value.cells, Value.oneCell']) rfl (by decide) Tryd.underlying12 trivial rfl (fun k h => by cases h; exact Tryd.underlying12) (fun ks h => by cases h)
theorem tt21 : TIok Tryd.prog 21 ⟨(some .i32), none, 1, 4, false, true, [.v (.int .i32 0)], .oth⟩ :=
  TIok.mk' (z := ((.int .i32 0))) (by kernel_rfl) (by simp [zOk, Value.cells, Value.oneCell']) rfl (by decide) Tryd.underlying21 trivial rfl (fun k h => by cases h; exact Tryd.underlying21) (fun ks h => by cases h)
theorem tt22 : TIok Tryd.prog 22 ⟨(some .u16), none, 1, 2, false, true, [.v (.int .u16 0)], .oth⟩ :=
  TIok.mk' (z := ((.int .u16 0))) (by kernel_rfl) (by simp [zOk, Value.cells, Value.oneCell']) rfl (by decide) Tryd.underlying22 trivial rfl (fun k h => by cases h; exact Tryd.underlying22) (fun ks h => by cases h)
theorem tt23 : TIok Tryd.prog 23 ⟨(some .u32), none, 1, 4, false, true, [.v (.int .u32 0)], .oth⟩ :=
  TIok.mk' (z := ((.int .u32 0))) (by kernel_rfl) (by simp [zOk, Value.cells, Value.oneCell']) rfl (by decide) Tryd.underlying23 trivial rfl (fun k h => by cases h; exact Tryd.underlying23) (fun ks h => by cases h)
theorem tt24_eq : EqTy Tryd.prog 2 24 [.int .u16, .int .u32] :=
  eqTy_struct Tryd.underlying24 (by kernel_rfl) (.one rfl rfl Tryd.underlying22 rfl (scEq_int 0 Tryd.underlying22) (.one rfl rfl Tryd.underlying23 rfl (scEq_int 0 Tryd.underlying23) .nil))
theorem tt24 : TIok Tryd.prog 24 ⟨none, (some [.int .u16, .int .u32]), 2, 8, true, true, [.v (.int .u16 0), .v (.int .u32 0)], (.struct [(0, 22), (1, 23)])⟩ :=
  TIok.mk' (z := (.agg #[(.int .u16 0), (.int .u32 0)])) (by kernel_rfl) (by simp [zOk, Value.cells, Value.oneCell']) rfl (by decide) Tryd.underlying24 ⟨_, rfl, rfl⟩ rfl (fun k h => by cases h) (eqk_flat (by kernel_rfl) (by decide) tt24_eq)
theorem tt25_eq : EqTy Tryd.prog 2 25 [.int .u16, .int .u32] :=
  eqTy_struct Tryd.underlying25 (by kernel_rfl) (.one rfl rfl Tryd.underlying22 rfl (scEq_int 0 Tryd.underlying22) (.one rfl rfl Tryd.underlying23 rfl (scEq_int 0 Tryd.underlying23) .nil))
theorem tt25 : TIok Tryd.prog 25 ⟨none, (some [.int .u16, .int .u32]), 2, 8, true, true, [.v (.int .u16 0), .v (.int .u32 0)], (.struct [(0, 22), (1, 23)])⟩ :=
  TIok.mk' (z := (.agg #[(.int .u16 0), (.int .u32 0)])) (by kernel_rfl) (by simp [zOk, Value.cells, Value.oneCell']) rfl (by decide) Tryd.underlying25 ⟨_, rfl, rfl⟩ rfl (fun k h => by cases h) (eqk_flat (by kernel_rfl) (by decide) tt25_eq)
theorem tt28 : TIok Tryd.prog 28 ⟨(some .i64), none, 1, 8, false, true, [.v (.int .i64 0)], .oth⟩ :=
  TIok.mk' (z := ((.int .i64 0))) (by kernel_rfl) (by simp [zOk, Value.cells, Value.oneCell']) rfl (by decide) Tryd.underlying28 trivial rfl (fun k h => by cases h; exact Tryd.underlying28) (fun ks h => by cases h)
theorem tt32_eq : EqTy Tryd.prog 2 32 [.int .u16, .int .u32] :=
  eqTy_struct Tryd.underlying32 (by kernel_rfl) (.one rfl rfl Tryd.underlying22 rfl (scEq_int 0 Tryd.underlying22) (.one rfl rfl Tryd.underlying23 rfl (scEq_int 0 Tryd.underlying23) .nil))
theorem tt32 : TIok Tryd.prog 32 ⟨none, (some [.int .u16, .int .u32]), 2, 8, true, true, [.v (.int .u16 0), .v (.int .u32 0)], (.struct [(0, 22), (1, 23)])⟩ :=
  TIok.mk' (z := (.agg #[(.int .u16 0), (.int .u32 0)])) (by kernel_rfl) (by simp [zOk, Value.cells, Value.oneCell']) rfl (by decide) Tryd.underlying32 ⟨_, rfl, rfl⟩ rfl (fun k h => by cases h) (eqk_flat (by kernel_rfl) (by decide) tt32_eq)
theorem tt40 : TIok Tryd.prog 40 ⟨(some .u64), none, 1, 8, false, true, [.v (.int .u64 0)], .oth⟩ :=
  TIok.mk' (z := ((.int .u64 0))) (by kernel_rfl) (by simp [zOk, Value.cells, Value.oneCell']) rfl (by decide) Tryd.underlying40 trivial rfl (fun k h => by cases h; exact Tryd.underlying40) (fun ks h => by cases h)
theorem tt53 : TIok Tryd.prog 53 ⟨none, none, 1, 24, false, false, [.row 5], (.slice 5)⟩ :=
  TIok.mk' (z := ((.slice none 0 0))) (by kernel_rfl) (by simp [zOk, Value.cells, Value.oneCell']) rfl (by decide) Tryd.underlying53 rfl rfl (fun k h => by cases h) (fun ks h => by cases h)
theorem tt54 : TIok Tryd.prog 54 ⟨none, none, 1, 24, false, false, [.row 3], (.slice 3)⟩ :=
  TIok.mk' (z := ((.slice none 0 0))) (by kernel_rfl) (by simp [zOk, Value.cells, Value.oneCell']) rfl (by decide) Tryd.underlying54 rfl rfl (fun k h => by cases h) (fun ks h => by cases h)
theorem tt58 : TIok Tryd.prog 58 ⟨none, none, 24, 24, true, true, [.v (.int .u8 0), .v (.int .u8 0), .v (.int .u8 0), .v (.int .u8 0), .v (.int .u8 0), .v (.int .u8 0), .v (.int .u8 0), .v (.int .u8 0), .v (.int .u8 0), .v (.int .u8 0), .v (.int .u8 0), .v (.int .u8 0), .v (.int .u8 0), .v (.int .u8 0), .v (.int .u8 0), .v (.int .u8 0), .v (.int .u8 0), .v (.int .u8 0), .v (.int .u8 0), .v (.int .u8 0), .v (.int .u8 0), .v (.int .u8 0), .v (.int .u8 0), .v (.int .u8 0)], (.arr 24 5)⟩ :=
  TIok.mk' (z := (.agg #[(.int .u8 0), (.int .u8 0), (.int .u8 0), (.int .u8 0), (.int .u8 0), (.int .u8 0), (.int .u8 0), (.int .u8 0), (.int .u8 0), (.int .u8 0), (.int .u8 0), (.int .u8 0), (.int .u8 0), (.int .u8 0), (.int .u8 0), (.int .u8 0), (.int .u8 0), (.int .u8 0), (.int .u8 0), (.int .u8 0), (.int .u8 0), (.int .u8 0), (.int .u8 0), (.int .u8 0)])) (by kernel_rfl) (by simp [zOk, Value.cells, Value.oneCell']) rfl (by decide) Tryd.underlying58 rfl rfl (fun k h => by cases h) (fun ks h => by cases h)
theorem tt67 : TIok Tryd.prog 67 ⟨none, none, 20, 160, true, true, [.v (.int .u64 0), .v (.int .u64 0), .v (.int .u64 0), .v (.int .u64 0), .v (.int .u64 0), .v (.int .u64 0), .v (.int .u64 0), .v (.int .u64 0), .v (.int .u64 0), .v (.int .u64 0), .v (.int .u64 0), .v (.int .u64 0), .v (.int .u64 0), .v (.int .u64 0), .v (.int .u64 0), .v (.int .u64 0), .v (.int .u64 0), .v (.int .u64 0), .v (.int .u64 0), .v (.int .u64 0)], (.arr 20 40)⟩ :=
  TIok.mk' (z := (.agg #[(.int .u64 0), (.int .u64 0), (.int .u64 0), (.int .u64 0), (.int .u64 0), (.int .u64 0), (.int .u64 0), (.int .u64 0), (.int .u64 0), (.int .u64 0), (.int .u64 0), (.int .u64 0), (.int .u64 0), (.int .u64 0), (.int .u64 0), (.int .u64 0), (.int .u64 0), (.int .u64 0), (.int .u64 0), (.int .u64 0)])) (by kernel_rfl) (by simp [zOk, Value.cells, Value.oneCell']) rfl (by decide) Tryd.underlying67 rfl rfl (fun k h => by cases h) (fun ks h => by cases h)
theorem tt70 : TIok Tryd.prog 70 ⟨(some .u64), none, 1, 8, false, true, [.v (.int .u64 0)], .oth⟩ :=
  TIok.mk' (z := ((.int .u64 0))) (by kernel_rfl) (by simp [zOk, Value.cells, Value.oneCell']) rfl (by decide) Tryd.underlying70 trivial rfl (fun k h => by cases h; exact Tryd.underlying70) (fun ks h => by cases h)
theorem tt76 : TIok Tryd.prog 76 ⟨none, none, 1, 8, false, false, [.v (.pointer none)], .oth⟩ :=
  TIok.mk' (z := ((.pointer none))) (by kernel_rfl) (by simp [zOk, Value.cells, Value.oneCell']) rfl (by decide) Tryd.underlying76 trivial rfl (fun k h => by cases h) (fun ks h => by cases h)
theorem tt86 : TIok Tryd.prog 86 ⟨none, none, 32, 32, true, true, [.v (.int .u8 0), .v (.int .u8 0), .v (.int .u8 0), .v (.int .u8 0), .v (.int .u8 0), .v (.int .u8 0), .v (.int .u8 0), .v (.int .u8 0), .v (.int .u8 0), .v (.int .u8 0), .v (.int .u8 0), .v (.int .u8 0), .v (.int .u8 0), .v (.int .u8 0), .v (.int .u8 0), .v (.int .u8 0), .v (.int .u8 0), .v (.int .u8 0), .v (.int .u8 0), .v (.int .u8 0), .v (.int .u8 0), .v (.int .u8 0), .v (.int .u8 0), .v (.int .u8 0), .v (.int .u8 0), .v (.int .u8 0), .v (.int .u8 0), .v (.int .u8 0), .v (.int .u8 0), .v (.int .u8 0), .v (.int .u8 0), .v (.int .u8 0)], (.arr 32 5)⟩ :=
  TIok.mk' (z := (.agg #[(.int .u8 0), (.int .u8 0), (.int .u8 0), (.int .u8 0), (.int .u8 0), (.int .u8 0), (.int .u8 0), (.int .u8 0), (.int .u8 0), (.int .u8 0), (.int .u8 0), (.int .u8 0), (.int .u8 0), (.int .u8 0), (.int .u8 0), (.int .u8 0), (.int .u8 0), (.int .u8 0), (.int .u8 0), (.int .u8 0), (.int .u8 0), (.int .u8 0), (.int .u8 0), (.int .u8 0), (.int .u8 0), (.int .u8 0), (.int .u8 0), (.int .u8 0), (.int .u8 0), (.int .u8 0), (.int .u8 0), (.int .u8 0)])) (by kernel_rfl) (by simp [zOk, Value.cells, Value.oneCell']) rfl (by decide) Tryd.underlying86 rfl rfl (fun k h => by cases h) (fun ks h => by cases h)
theorem tt87 : TIok Tryd.prog 87 ⟨none, none, 64, 64, true, true, [.v (.int .u8 0), .v (.int .u8 0), .v (.int .u8 0), .v (.int .u8 0), .v (.int .u8 0), .v (.int .u8 0), .v (.int .u8 0), .v (.int .u8 0), .v (.int .u8 0), .v (.int .u8 0), .v (.int .u8 0), .v (.int .u8 0), .v (.int .u8 0), .v (.int .u8 0), .v (.int .u8 0), .v (.int .u8 0), .v (.int .u8 0), .v (.int .u8 0), .v (.int .u8 0), .v (.int .u8 0), .v (.int .u8 0), .v (.int .u8 0), .v (.int .u8 0), .v (.int .u8 0), .v (.int .u8 0), .v (.int .u8 0), .v (.int .u8 0), .v (.int .u8 0), .v (.int .u8 0), .v (.int .u8 0), .v (.int .u8 0), .v (.int .u8 0), .v (.int .u8 0), .v (.int .u8 0), .v (.int .u8 0), .v (.int .u8 0), .v (.int .u8 0), .v (.int .u8 0), .v (.int .u8 0), .v (.int .u8 0), .v (.int .u8 0), .v (.int .u8 0), .v (.int .u8 0), .v (.int .u8 0), .v (.int .u8 0), .v (.int .u8 0), .v (.int .u8 0), .v (.int .u8 0), .v (.int .u8 0), .v (.int .u8 0), .v (.int .u8 0), .v (.int .u8 0), .v (.int .u8 0), .v (.int .u8 0), .v (.int .u8 0), .v (.int .u8 0), .v (.int .u8 0), .v (.int .u8 0), .v (.int .u8 0), .v (.int .u8 0), .v (.int .u8 0), .v (.int .u8 0), .v (.int .u8 0), .v (.int .u8 0)], (.arr 64 5)⟩ :=
  TIok.mk' (z := (.agg #[(.int .u8 0), (.int .u8 0), (.int .u8 0), (.int .u8 0), (.int .u8 0), (.int .u8 0), (.int .u8 0), (.int .u8 0), (.int .u8 0), (.int .u8 0), (.int .u8 0), (.int .u8 0), (.int .u8 0), (.int .u8 0), (.int .u8 0), (.int .u8 0), (.int .u8 0), (.int .u8 0), (.int .u8 0), (.int .u8 0), (.int .u8 0), (.int .u8 0), (.int .u8 0), (.int .u8 0), (.int .u8 0), (.int .u8 0), (.int .u8 0), (.int .u8 0), (.int .u8 0), (.int .u8 0), (.int .u8 0), (.int .u8 0), (.int .u8 0), (.int .u8 0), (.int .u8 0), (.int .u8 0), (.int .u8 0), (.int .u8 0), (.int .u8 0), (.int .u8 0), (.int .u8 0), (.int .u8 0), (.int .u8 0), (.int .u8 0), (.int .u8 0), (.int .u8 0), (.int .u8 0), (.int .u8 0), (.int .u8 0), (.int .u8 0), (.int .u8 0), (.int .u8 0), (.int .u8 0), (.int .u8 0), (.int .u8 0), (.int .u8 0), (.int .u8 0), (.int .u8 0), (.int .u8 0), (.int .u8 0), (.int .u8 0), (.int .u8 0), (.int .u8 0), (.int .u8 0)])) (by kernel_rfl) (by simp [zOk, Value.cells, Value.oneCell']) rfl (by decide) Tryd.underlying87 rfl rfl (fun k h => by cases h) (fun ks h => by cases h)
theorem tt88 : TIok Tryd.prog 88 ⟨none, none, 1, 8, false, false, [.v (.pointer none)], .oth⟩ :=
  TIok.mk' (z := ((.pointer none))) (by kernel_rfl) (by simp [zOk, Value.cells, Value.oneCell']) rfl (by decide) Tryd.underlying88 trivial rfl (fun k h => by cases h) (fun ks h => by cases h)
theorem tt89 : TIok Tryd.prog 89 ⟨none, none, 1, 8, false, false, [.v (.pointer none)], .oth⟩ :=
  TIok.mk' (z := ((.pointer none))) (by kernel_rfl) (by simp [zOk, Value.cells, Value.oneCell']) rfl (by decide) Tryd.underlying89 trivial rfl (fun k h => by cases h) (fun ks h => by cases h)
theorem tt90_eq : EqTy Tryd.prog 2 90 [.str] :=
  eqTy_struct Tryd.underlying90 (by kernel_rfl) (.one rfl rfl Tryd.underlying9 rfl (scEq_str 0 Tryd.underlying9) .nil)
theorem tt90 : TIok Tryd.prog 90 ⟨none, (some [.str]), 1, 16, true, true, [.v (.string ⟨#[]⟩)], (.struct [(0, 9)])⟩ :=
  TIok.mk' (z := (.agg #[(.string ⟨#[]⟩)])) (by kernel_rfl) (by simp [zOk, Value.cells, Value.oneCell']) rfl (by decide) Tryd.underlying90 ⟨_, rfl, rfl⟩ rfl (fun k h => by cases h) (eqk_flat (by kernel_rfl) (by decide) tt90_eq)
theorem tt91_eq : EqTy Tryd.prog 2 91 [.str] :=
  eqTy_struct Tryd.underlying91 (by kernel_rfl) (.one rfl rfl Tryd.underlying9 rfl (scEq_str 0 Tryd.underlying9) .nil)
theorem tt91 : TIok Tryd.prog 91 ⟨none, (some [.str]), 1, 16, true, true, [.v (.string ⟨#[]⟩)], (.struct [(0, 9)])⟩ :=
  TIok.mk' (z := (.agg #[(.string ⟨#[]⟩)])) (by kernel_rfl) (by simp [zOk, Value.cells, Value.oneCell']) rfl (by decide) Tryd.underlying91 ⟨_, rfl, rfl⟩ rfl (fun k h => by cases h) (eqk_flat (by kernel_rfl) (by decide) tt91_eq)
theorem ttok : TTok Tryd.prog TT := by
  intro t i h
  unfold TT at h
  split at h <;> first | (cases h; done) | (cases h; first | exact tt2 | exact tt3 | exact tt4 | exact tt5 | exact tt9 | exact tt12 | exact tt21 | exact tt22 | exact tt23 | exact tt24 | exact tt25 | exact tt28 | exact tt32 | exact tt40 | exact tt53 | exact tt54 | exact tt58 | exact tt67 | exact tt70 | exact tt76 | exact tt86 | exact tt87 | exact tt88 | exact tt89 | exact tt90 | exact tt91)
theorem mixed : Tryd.prog.follows .mixedOrders = true := by kernel_rfl
theorem ent4 : Ent Tryd.prog 4 := ⟨_, Tryd.func4, by kernel_rfl, rfl⟩
theorem ent5 : Ent Tryd.prog 5 := ⟨_, Tryd.func5, by kernel_rfl, rfl⟩
theorem ent6 : Ent Tryd.prog 6 := ⟨_, Tryd.func6, by kernel_rfl, rfl⟩
theorem ent7 : Ent Tryd.prog 7 := ⟨_, Tryd.func7, by kernel_rfl, rfl⟩
theorem ent8 : Ent Tryd.prog 8 := ⟨_, Tryd.func8, by kernel_rfl, rfl⟩
theorem ent9 : Ent Tryd.prog 9 := ⟨_, Tryd.func9, by kernel_rfl, rfl⟩
theorem ent10 : Ent Tryd.prog 10 := ⟨_, Tryd.func10, by kernel_rfl, rfl⟩
theorem ent11 : Ent Tryd.prog 11 := ⟨_, Tryd.func11, by kernel_rfl, rfl⟩
theorem ent12 : Ent Tryd.prog 12 := ⟨_, Tryd.func12, by kernel_rfl, rfl⟩
theorem ent13 : Ent Tryd.prog 13 := ⟨_, Tryd.func13, by kernel_rfl, rfl⟩
theorem ent14 : Ent Tryd.prog 14 := ⟨_, Tryd.func14, by kernel_rfl, rfl⟩
theorem ent15 : Ent Tryd.prog 15 := ⟨_, Tryd.func15, by kernel_rfl, rfl⟩
theorem ent16 : Ent Tryd.prog 16 := ⟨_, Tryd.func16, by kernel_rfl, rfl⟩
theorem ent17 : Ent Tryd.prog 17 := ⟨_, Tryd.func17, by kernel_rfl, rfl⟩
theorem ent18 : Ent Tryd.prog 18 := ⟨_, Tryd.func18, by kernel_rfl, rfl⟩
theorem ent19 : Ent Tryd.prog 19 := ⟨_, Tryd.func19, by kernel_rfl, rfl⟩
theorem ent20 : Ent Tryd.prog 20 := ⟨_, Tryd.func20, by kernel_rfl, rfl⟩
theorem ent22 : Ent Tryd.prog 22 := ⟨_, Tryd.func22, by kernel_rfl, rfl⟩
theorem ent23 : Ent Tryd.prog 23 := ⟨_, Tryd.func23, by kernel_rfl, rfl⟩
theorem ent24 : Ent Tryd.prog 24 := ⟨_, Tryd.func24, by kernel_rfl, rfl⟩
theorem ent28 : Ent Tryd.prog 28 := ⟨_, Tryd.func28, by kernel_rfl, rfl⟩
end Go.Proofs.YtgomhljgjmjgfaaDoor
/- Numbers aL texts: copyistref01.Digits, copyistref03.Int, Show. -/
namespace Go.Proofs.YtgomhljgjmjgfaaDoor
open Go Go.Lift
set_option maxHeartbeats 4000000
set_option linter.unusedSimpArgs false
set_option linter.unusedVariables false
attribute [local irreducible] WK IL IP IG IW DW

theorem nDigits_le (u : Nat) (h : u < 18446744073709551616) : Lib.nDigits u ≤ 20 := by
  by_cases h1 : u = 0
  · subst h1; rw [Lib.nDigits_small (by decide)]; decide
  · have := Lib.numDigits_eq u (by omega) h
    split at this <;> omega
theorem digits_le (u : Nat) (h : u < 18446744073709551616) : (Lib.decDigits u).length ≤ 20 := by rw [Lib.decDigits_length]; exact nDigits_le u h
theorem digits_call : ∀ (u : Nat), u < 18446744073709551616 → SCall Tryd.prog 14 [.v (.int .u64 (u : Int))] (.v (.string ⟨(Lib.decDigits u).toArray⟩)) [.v (.int .u64 (u : Int))] := by
  intro u
  induction u using Nat.strongRecOn with
  | _ u ih =>
    intro hu
    by_cases h : u < 10
    · have h48 : IntKind.u8.wrap (48 + (u : Int)) = 48 + (u : Int) := wrap_u8 (by omega) (by omega)
      have h48' : IntKind.u64.wrap (48 + (u : Int)) = 48 + (u : Int) := wrap_u64 (by omega) (by omega)
      have hn : ((48 : Int) + (u : Int)).toNat = 48 + u := by omega
      rw [Lib.decDigits_one h]
      refine SCall.of_body' (TT := TT) (fun _ => false) [false] ttok Tryd.func14 rfl (Nat.le_of_ble_eq_true rfl) rfl fun fx hfx => WK.top ?_
      simp only [impl, imp, argT, List.append_nil, List.map_nil, List.nil_append, show Tryd.f14.ntmps = 20 from rfl, Nat.zero_add, Nat.reduceAdd]
      repeat' (first | refine WK.seq ?_ | refine WK.reg ?_ | refine IL.nil ?_ | refine WK.skip ?_ | refine WK.drawnS (id := 3) mixed [] [2] [0, 0, 0, 0, 0, 0, 0, 0, 0, 1, 1] [0, 0, 0, 1, 1, 1, 1, 1, 1, 1, 1] (by decide +kernel) ?_ | refine DW.nil ?_ | (with_reducible refine IL.wr ?_ ?_; focus exact cW) | (with_reducible refine DW.wr ?_ ?_; focus exact cW) | refine IL.sg ttok ?_ (h := by intro K hK; simp only [go_sem, reduceIte, h48, h48', hn, bytesOfCells, Option.map_some]; exact cK hK) | refine DW.re ttok ?_ (h := by intro K hK; simp only [go_sem, reduceIte, h48, h48', hn, bytesOfCells, Option.map_some]; exact cK hK) | refine DW.rm ttok ?_ (h := by intro K hK; simp only [go_sem, reduceIte, h48, h48', hn, bytesOfCells, Option.map_some]; exact cK hK) | (refine DW.bst (T' := ?_) ttok rfl ?_ (fun K hK => ?_) ?_ ?_; rotate_left 1; (focus exact cG); (focus (simp only [go_sem, reduceIte, h48, h48', hn, bytesOfCells, Option.map_some]; exact cK hK)); (focus (first | exact ⟨_, rfl⟩ | rfl))) | (refine WK.cn (fun h => ?_) (fun h => ?_); all_goals first | (simp only [reduceCtorEq] at h; done) | (simp only [hsA, hsD, hsE, ne_eq] at h; first | done | (exfalso; omega; done) | skip) | skip))
      all_goals try ((first | refine WK.ret ⟨.inr rfl, ?_⟩ | refine ⟨.inl rfl, ?_⟩ | refine ⟨.inl trivial, ?_⟩); refine Fin.o ?_ ?_ (h1 := by first | rfl | (simp only [go_sem, show Tryd.f14.results.toList = [.tmp 2] from rfl, reduceIte] <;> rfl)); rotate_left 1; (focus (first | rfl | skip)); all_goals try with_reducible rfl)
      all_goals skip
    · have hd : IntKind.u64.wrap (Int.tdiv (u : Int) 10) = ((u / 10 : Nat) : Int) := by
        rw [Int.tdiv_eq_ediv_of_nonneg (by omega)]; exact wrap_u64 (by omega) (by omega)
      have hm : Int.tmod (u : Int) 10 = ((u % 10 : Nat) : Int) := by rw [Int.tmod_eq_emod_of_nonneg (by omega)]; simp
      have h48' : IntKind.u64.wrap (48 + ((u % 10 : Nat) : Int)) = ((48 + u % 10 : Nat) : Int) := by rw [wrap_u64 (by omega) (by omega)]; omega
      have h48 : IntKind.u8.wrap ((48 + u % 10 : Nat) : Int) = ((48 + u % 10 : Nat) : Int) := wrap_u8 (by omega) (by omega)
      have hq := ih (u / 10) (by omega) (by omega)
      have hl := digits_le (u / 10) (by omega)
      have hs : (ByteArray.mk (Lib.decDigits (u / 10)).toArray).size + (ByteArray.mk [UInt8.ofNat (48 + u % 10)].toArray).size ≤ 9223372036854775807 := by rw [ba_size, ba_size]; simp; omega
      have hs2 : (Lib.decDigits (u / 10)).length + (0 + 1) ≤ 9223372036854775807 := by omega
      have hap := ba_append (Lib.decDigits (u / 10)) [UInt8.ofNat (48 + u % 10)]
      rw [show Lib.decDigits u = Lib.decDigits (u / 10) ++ [UInt8.ofNat (48 + u % 10)] by rw [Lib.decDigits, dif_neg h]]
      refine SCall.of_body' (TT := TT) (fun _ => false) [false] ttok Tryd.func14 rfl (Nat.le_of_ble_eq_true rfl) rfl fun fx hfx => WK.top ?_
      simp only [impl, imp, argT, List.append_nil, List.map_nil, List.nil_append, show Tryd.f14.ntmps = 20 from rfl, Nat.zero_add, Nat.reduceAdd]
      repeat' (first | refine WK.seq ?_ | refine WK.reg ?_ | refine IL.nil ?_ | refine WK.skip ?_ | refine WK.drawnS (id := 3) mixed [] [2] [0, 0, 0, 0, 0, 0, 0, 0, 0, 1, 1] [0, 0, 0, 1, 1, 1, 1, 1, 1, 1, 1] (by decide +kernel) ?_ | refine DW.nil ?_ | (with_reducible refine IL.wr ?_ ?_; focus exact cW) | (with_reducible refine DW.wr ?_ ?_; focus exact cW) | refine IL.sg ttok ?_ (h := by intro K hK; simp only [go_sem, reduceIte, hd, hm, h48, h48', bytesOfCells, Option.map_some, Int.toNat_natCast, hap, hs, hs2, ba_size, List.length_cons, List.length_nil, ba_append]; exact cK hK) | refine DW.re ttok ?_ (h := by intro K hK; simp only [go_sem, reduceIte, hd, hm, h48, h48', bytesOfCells, Option.map_some, Int.toNat_natCast, hap, hs, hs2, ba_size, List.length_cons, List.length_nil, ba_append]; exact cK hK) | refine DW.rm ttok ?_ (h := by intro K hK; simp only [go_sem, reduceIte, hd, hm, h48, h48', bytesOfCells, Option.map_some, Int.toNat_natCast, hap, hs, hs2, ba_size, List.length_cons, List.length_nil, ba_append]; exact cK hK) | (refine DW.bst (T' := ?_) ttok rfl ?_ (fun K hK => ?_) ?_ ?_; rotate_left 1; (focus exact cG); (focus (simp only [go_sem, reduceIte, hd, hm, h48, h48', bytesOfCells, Option.map_some, Int.toNat_natCast, hap, hs, hs2, ba_size, List.length_cons, List.length_nil, ba_append]; exact cK hK)); (focus (first | exact ⟨_, rfl⟩ | rfl))) | refine DW.cS ttok ent14 [.bor] true ?_ (hA := by first | rfl | (simp only [go_sem, reduceIte, hd, hm, h48, h48', bytesOfCells, Option.map_some, Int.toNat_natCast, hap, hs, hs2, ba_size, List.length_cons, List.length_nil, ba_append] <;> rfl)) (hS := by exact hq) (hi' := by first | rfl | (simp only [go_sem, reduceIte, hd, hm, h48, h48', bytesOfCells, Option.map_some, Int.toNat_natCast, hap, hs, hs2, ba_size, List.length_cons, List.length_nil, ba_append] <;> rfl)) (hK := by intro K hK; simp only [go_sem, reduceIte, hd, hm, h48, h48', bytesOfCells, Option.map_some, Int.toNat_natCast, hap, hs, hs2, ba_size, List.length_cons, List.length_nil, ba_append]; exact cK hK) | (refine WK.cn (fun h => ?_) (fun h => ?_); all_goals first | (simp only [reduceCtorEq] at h; done) | (simp only [hsA, hsD, hsE, ne_eq] at h; first | done | (exfalso; omega; done) | skip) | skip))
      all_goals try ((first | refine WK.ret ⟨.inr rfl, ?_⟩ | refine ⟨.inl rfl, ?_⟩ | refine ⟨.inl trivial, ?_⟩); refine Fin.o ?_ ?_ (h1 := by first | rfl | (simp only [go_sem, show Tryd.f14.results.toList = [.tmp 2] from rfl, reduceIte, hap] <;> rfl)) (h2 := by first | rfl | (simp only [go_sem, reduceIte, hap] <;> rfl)); rotate_left 1; (focus (first | rfl | skip)); all_goals try with_reducible rfl)
      all_goals skip
end Go.Proofs.YtgomhljgjmjgfaaDoor
/- Contracts of Go's library, laid at this program. -/
namespace Go.Proofs
open Go.Shelf
def Tryd.laysM171_ren : Go.Shelf.Ren := ⟨fun | 171 => 52 | 243 => 53 | 246 => 54 | 283 => 24 | 284 => 25 | 285 => 26 | 286 => 27 | 129 => 32 | 317 => 31 | 318 => 33 | 319 => 34 | 320 => 35 | 337 => 46 | 338 => 47 | n => n, fun | 3 => 3 | 9 => 9 | 2 => 2 | 4 => 4 | 171 => 58 | 0 => 0 | 53 => 40 | 37 => 53 | 5 => 5 | 173 => 61 | 212 => 67 | 51 => 23 | 20 => 20 | 213 => 68 | 46 => 70 | 232 => 86 | 233 => 87 | n => n, fun | 17 => 0 | 18 => 4 | 19 => 5 | n => n⟩
theorem Tryd.laysM171 : Go.Proofs.LaysM.n171 Tryd.prog Tryd.laysM171_ren := {
  mixed := by kernel_rfl
  f129 := Tryd.func32.trans (congrArg some (by kernel_rfl))
  f171 := Tryd.func52.trans (congrArg some (by kernel_rfl))
  f243 := Tryd.func53.trans (congrArg some (by kernel_rfl))
  f246 := Tryd.func54.trans (congrArg some (by kernel_rfl))
  f283 := Tryd.func24.trans (congrArg some (by kernel_rfl))
  f284 := Tryd.func25.trans (congrArg some (by kernel_rfl))
  f285 := Tryd.func26.trans (congrArg some (by kernel_rfl))
  f286 := Tryd.func27.trans (congrArg some (by kernel_rfl))
  f317 := Tryd.func31.trans (congrArg some (by kernel_rfl))
  f318 := Tryd.func33.trans (congrArg some (by kernel_rfl))
  f319 := Tryd.func34.trans (congrArg some (by kernel_rfl))
  f320 := Tryd.func35.trans (congrArg some (by kernel_rfl))
  f337 := Tryd.func46.trans (congrArg some (by kernel_rfl))
  f338 := Tryd.func47.trans (congrArg some (by kernel_rfl))
  t0 := Tryd.underlying0
  a0 := Tryd.isAgg0
  z0 := Tryd.sizeOf0
  v0 := Tryd.zeroValue0
  t2 := Tryd.underlying2
  a2 := Tryd.isAgg2
  z2 := Tryd.sizeOf2
  v2 := Tryd.zeroValue2
  t3 := Tryd.underlying3
  a3 := Tryd.isAgg3
  z3 := Tryd.sizeOf3
  v3 := Tryd.zeroValue3
  t4 := Tryd.underlying4
  a4 := Tryd.isAgg4
  z4 := Tryd.sizeOf4
  v4 := Tryd.zeroValue4
  t5 := Tryd.underlying5
  a5 := Tryd.isAgg5
  z5 := Tryd.sizeOf5
  v5 := Tryd.zeroValue5
  t9 := Tryd.underlying9
  a9 := Tryd.isAgg9
  z9 := Tryd.sizeOf9
  v9 := Tryd.zeroValue9
  t20 := Tryd.underlying20
  a20 := Tryd.isAgg20
  z20 := Tryd.sizeOf20
  v20 := Tryd.zeroValue20
  t37 := Tryd.underlying53
  a37 := Tryd.isAgg53
  z37 := Tryd.sizeOf53
  v37 := Tryd.zeroValue53
  t46 := Tryd.underlying70
  a46 := Tryd.isAgg70
  z46 := Tryd.sizeOf70
  v46 := Tryd.zeroValue70
  t51 := Tryd.underlying23
  a51 := Tryd.isAgg23
  z51 := Tryd.sizeOf23
  v51 := Tryd.zeroValue23
  t53 := Tryd.underlying40
  a53 := Tryd.isAgg40
  z53 := Tryd.sizeOf40
  v53 := Tryd.zeroValue40
  t171 := Tryd.underlying58
  a171 := Tryd.isAgg58
  z171 := Tryd.sizeOf58
  v171 := Tryd.zeroValue58
  t173 := Tryd.underlying61
  a173 := Tryd.isAgg61
  z173 := Tryd.sizeOf61
  v173 := Tryd.zeroValue61
  t212 := Tryd.underlying67
  a212 := Tryd.isAgg67
  z212 := Tryd.sizeOf67
  v212 := Tryd.zeroValue67
  t213 := Tryd.underlying68
  a213 := Tryd.isAgg68
  z213 := Tryd.sizeOf68
  t232 := Tryd.underlying86
  a232 := Tryd.isAgg86
  z232 := Tryd.sizeOf86
  v232 := Tryd.zeroValue86
  t233 := Tryd.underlying87
  a233 := Tryd.isAgg87
  z233 := Tryd.sizeOf87
  v233 := Tryd.zeroValue87
  g17 := by kernel_rfl
  g18 := by kernel_rfl
  g19 := by kernel_rfl
  i0 := by kernel_rfl
  i2 := by kernel_rfl
  i3 := by kernel_rfl
  i4 := by kernel_rfl
  i5 := by kernel_rfl
  i9 := by kernel_rfl
  i20 := by kernel_rfl
  i37 := by kernel_rfl
  i46 := by kernel_rfl
  i51 := by kernel_rfl
  i53 := by kernel_rfl
  i171 := by kernel_rfl
  i173 := by kernel_rfl
  i212 := by kernel_rfl
  i232 := by kernel_rfl
  i233 := by kernel_rfl
  m17 := by kernel_rfl
  m18 := by kernel_rfl
  m19 := by kernel_rfl }
def Tryd.laysPu14_ren : Go.Shelf.Ren := ⟨fun | 14 => 21 | 16 => 29 | 17 => 30 | 19 => 40 | 20 => 41 | 21 => 42 | 22 => 43 | 23 => 44 | 24 => 45 | 25 => 50 | 27 => 52 | 26 => 51 | 28 => 53 | 29 => 54 | 30 => 24 | 31 => 25 | 32 => 26 | 33 => 27 | 35 => 32 | 34 => 31 | 36 => 33 | 37 => 34 | 38 => 35 | 39 => 46 | 40 => 47 | n => n, fun | 9 => 9 | 3 => 3 | 22 => 40 | 24 => 50 | 25 => 51 | 4 => 4 | 34 => 73 | 5 => 5 | 36 => 70 | 37 => 53 | 0 => 0 | 39 => 76 | 21 => 21 | 44 => 84 | 47 => 88 | 50 => 91 | 48 => 89 | 2 => 2 | 52 => 58 | 55 => 61 | 59 => 67 | 60 => 23 | 20 => 20 | 61 => 68 | 65 => 86 | 66 => 87 | 67 => 27 | n => n, fun | 0 => 2 | 1 => 3 | 2 => 0 | 3 => 4 | 4 => 5 | n => n⟩
theorem Tryd.laysPu14 : Go.Proofs.LaysPu.n14 Tryd.prog Tryd.laysPu14_ren := {
  mixed := by kernel_rfl
  f14 := Tryd.func21.trans (congrArg some (by kernel_rfl))
  f16 := Tryd.func29.trans (congrArg some (by kernel_rfl))
  f17 := Tryd.func30.trans (congrArg some (by kernel_rfl))
  f19 := Tryd.func40.trans (congrArg some (by kernel_rfl))
  f20 := Tryd.func41.trans (congrArg some (by kernel_rfl))
  f21 := Tryd.func42.trans (congrArg some (by kernel_rfl))
  f22 := Tryd.func43.trans (congrArg some (by kernel_rfl))
  f23 := Tryd.func44.trans (congrArg some (by kernel_rfl))
  f24 := Tryd.func45.trans (congrArg some (by kernel_rfl))
  f25 := Tryd.func50.trans (congrArg some (by kernel_rfl))
  f26 := Tryd.func51.trans (congrArg some (by kernel_rfl))
  f27 := Tryd.func52.trans (congrArg some (by kernel_rfl))
  f28 := Tryd.func53.trans (congrArg some (by kernel_rfl))
  f29 := Tryd.func54.trans (congrArg some (by kernel_rfl))
  f30 := Tryd.func24.trans (congrArg some (by kernel_rfl))
  f31 := Tryd.func25.trans (congrArg some (by kernel_rfl))
  f32 := Tryd.func26.trans (congrArg some (by kernel_rfl))
  f33 := Tryd.func27.trans (congrArg some (by kernel_rfl))
  f34 := Tryd.func31.trans (congrArg some (by kernel_rfl))
  f35 := Tryd.func32.trans (congrArg some (by kernel_rfl))
  f36 := Tryd.func33.trans (congrArg some (by kernel_rfl))
  f37 := Tryd.func34.trans (congrArg some (by kernel_rfl))
  f38 := Tryd.func35.trans (congrArg some (by kernel_rfl))
  f39 := Tryd.func46.trans (congrArg some (by kernel_rfl))
  f40 := Tryd.func47.trans (congrArg some (by kernel_rfl))
  t0 := Tryd.underlying0
  a0 := Tryd.isAgg0
  z0 := Tryd.sizeOf0
  v0 := Tryd.zeroValue0
  i0 := by kernel_rfl
  t2 := Tryd.underlying2
  a2 := Tryd.isAgg2
  z2 := Tryd.sizeOf2
  v2 := Tryd.zeroValue2
  i2 := by kernel_rfl
  t3 := Tryd.underlying3
  a3 := Tryd.isAgg3
  z3 := Tryd.sizeOf3
  v3 := Tryd.zeroValue3
  i3 := by kernel_rfl
  t4 := Tryd.underlying4
  a4 := Tryd.isAgg4
  z4 := Tryd.sizeOf4
  v4 := Tryd.zeroValue4
  i4 := by kernel_rfl
  t5 := Tryd.underlying5
  a5 := Tryd.isAgg5
  z5 := Tryd.sizeOf5
  v5 := Tryd.zeroValue5
  i5 := by kernel_rfl
  t9 := Tryd.underlying9
  a9 := Tryd.isAgg9
  z9 := Tryd.sizeOf9
  v9 := Tryd.zeroValue9
  i9 := by kernel_rfl
  t20 := Tryd.underlying20
  a20 := Tryd.isAgg20
  z20 := Tryd.sizeOf20
  v20 := Tryd.zeroValue20
  i20 := by kernel_rfl
  t21 := Tryd.underlying21
  a21 := Tryd.isAgg21
  z21 := Tryd.sizeOf21
  v21 := Tryd.zeroValue21
  i21 := by kernel_rfl
  t22 := Tryd.underlying40
  a22 := Tryd.isAgg40
  z22 := Tryd.sizeOf40
  v22 := Tryd.zeroValue40
  i22 := by kernel_rfl
  t24 := Tryd.underlying50
  a24 := Tryd.isAgg50
  z24 := Tryd.sizeOf50
  v24 := Tryd.zeroValue50
  i24 := by kernel_rfl
  t25 := Tryd.underlying51
  a25 := Tryd.isAgg51
  z25 := Tryd.sizeOf51
  v25 := Tryd.zeroValue51
  i25 := by kernel_rfl
  t34 := Tryd.underlying73
  a34 := Tryd.isAgg73
  z34 := Tryd.sizeOf73
  v34 := Tryd.zeroValue73
  i34 := by kernel_rfl
  c34 := by kernel_rfl
  t36 := Tryd.underlying70
  a36 := Tryd.isAgg70
  z36 := Tryd.sizeOf70
  v36 := Tryd.zeroValue70
  i36 := by kernel_rfl
  t37 := Tryd.underlying53
  a37 := Tryd.isAgg53
  z37 := Tryd.sizeOf53
  v37 := Tryd.zeroValue53
  i37 := by kernel_rfl
  t39 := Tryd.underlying76
  a39 := Tryd.isAgg76
  z39 := Tryd.sizeOf76
  v39 := Tryd.zeroValue76
  i39 := by kernel_rfl
  t44 := Tryd.underlying84
  a44 := Tryd.isAgg84
  z44 := Tryd.sizeOf84
  v44 := Tryd.zeroValue84
  i44 := by kernel_rfl
  t47 := Tryd.underlying88
  a47 := Tryd.isAgg88
  z47 := Tryd.sizeOf88
  v47 := Tryd.zeroValue88
  i47 := by kernel_rfl
  t48 := Tryd.underlying89
  a48 := Tryd.isAgg89
  z48 := Tryd.sizeOf89
  v48 := Tryd.zeroValue89
  i48 := by kernel_rfl
  t50 := Tryd.underlying91
  a50 := Tryd.isAgg91
  z50 := Tryd.sizeOf91
  v50 := Tryd.zeroValue91
  i50 := by kernel_rfl
  t52 := Tryd.underlying58
  a52 := Tryd.isAgg58
  z52 := Tryd.sizeOf58
  v52 := Tryd.zeroValue58
  i52 := by kernel_rfl
  t55 := Tryd.underlying61
  a55 := Tryd.isAgg61
  z55 := Tryd.sizeOf61
  v55 := Tryd.zeroValue61
  i55 := by kernel_rfl
  t59 := Tryd.underlying67
  a59 := Tryd.isAgg67
  z59 := Tryd.sizeOf67
  v59 := Tryd.zeroValue67
  i59 := by kernel_rfl
  t60 := Tryd.underlying23
  a60 := Tryd.isAgg23
  z60 := Tryd.sizeOf23
  v60 := Tryd.zeroValue23
  i60 := by kernel_rfl
  t61 := Tryd.underlying68
  a61 := Tryd.isAgg68
  z61 := Tryd.sizeOf68
  t65 := Tryd.underlying86
  a65 := Tryd.isAgg86
  z65 := Tryd.sizeOf86
  v65 := Tryd.zeroValue86
  i65 := by kernel_rfl
  t66 := Tryd.underlying87
  a66 := Tryd.isAgg87
  z66 := Tryd.sizeOf87
  v66 := Tryd.zeroValue87
  i66 := by kernel_rfl
  t67 := Tryd.underlying27
  a67 := Tryd.isAgg27
  z67 := Tryd.sizeOf27
  v67 := Tryd.zeroValue27
  i67 := by kernel_rfl
  g0 := by kernel_rfl
  m0 := by kernel_rfl
  g1 := by kernel_rfl
  m1 := by kernel_rfl
  g2 := by kernel_rfl
  m2 := by kernel_rfl
  g3 := by kernel_rfl
  m3 := by kernel_rfl
  g4 := by kernel_rfl
  m4 := by kernel_rfl }
def Tryd.lays219_ren : Go.Shelf.Ren := ⟨fun | 219 => 28 | 217 => 36 | 225 => 37 | 224 => 38 | 267 => 39 | 266 => 48 | 314 => 49 | n => n, fun | 9 => 9 | 3 => 3 | 4 => 4 | 5 => 5 | 46 => 70 | 146 => 80 | 51 => 23 | n => n, fun | 1 => 1 | n => n⟩
theorem Tryd.lays219 : Go.Proofs.Lays.n219 Tryd.prog Tryd.lays219_ren := {
  mixed := by kernel_rfl
  f217 := Tryd.func36.trans (congrArg some (by kernel_rfl))
  f219 := Tryd.func28.trans (congrArg some (by kernel_rfl))
  f224 := Tryd.func38.trans (congrArg some (by kernel_rfl))
  f225 := Tryd.func37.trans (congrArg some (by kernel_rfl))
  f266 := Tryd.func48.trans (congrArg some (by kernel_rfl))
  f267 := Tryd.func39.trans (congrArg some (by kernel_rfl))
  f314 := Tryd.func49.trans (congrArg some (by kernel_rfl))
  t3 := Tryd.underlying3
  a3 := Tryd.isAgg3
  z3 := Tryd.sizeOf3
  v3 := Tryd.zeroValue3
  t4 := Tryd.underlying4
  a4 := Tryd.isAgg4
  z4 := Tryd.sizeOf4
  v4 := Tryd.zeroValue4
  t5 := Tryd.underlying5
  a5 := Tryd.isAgg5
  z5 := Tryd.sizeOf5
  v5 := Tryd.zeroValue5
  t9 := Tryd.underlying9
  a9 := Tryd.isAgg9
  z9 := Tryd.sizeOf9
  v9 := Tryd.zeroValue9
  t46 := Tryd.underlying70
  a46 := Tryd.isAgg70
  z46 := Tryd.sizeOf70
  v46 := Tryd.zeroValue70
  t51 := Tryd.underlying23
  a51 := Tryd.isAgg23
  z51 := Tryd.sizeOf23
  v51 := Tryd.zeroValue23
  t146 := Tryd.underlying80
  a146 := Tryd.isAgg80
  z146 := Tryd.sizeOf80
  v146 := Tryd.zeroValue80
  g1 := by kernel_rfl }
end Go.Proofs
/- strconv.FormatUint at base 10. -/
namespace Go.Proofs.YtgomhljgjmjgfaaDoor
open Go Go.Lift Go.RowKit Go.Lib Go.Sort Go.Shelf
set_option maxHeartbeats 6400000
set_option maxRecDepth 100000
set_option linter.unusedSimpArgs false
set_option linter.unusedVariables false

theorem ifu_big (u : Nat) (hu : 100 ≤ u) (hu64 : u < 18446744073709551616) (w : World) (htab : Lib.TabIs Tryd.prog w "internal/strconv.uint64pow10" .u64 Lib.pow10Tab) :
    Calls Tryd.prog 19 #[.int .u64 u, .int .i64 10] w fun e w' => e = .returned (.string ⟨(Lib.decDigits u).toArray⟩) ∧ ∃ k os, w' = Sort.grow (w.drewN k) os := by
  have hmixed := mixed
  have t5 := Tryd.underlying5; have a5 := Tryd.isAgg5; have z5 := Tryd.sizeOf5; have v5 := Tryd.zeroValue5
  have t37 := Tryd.underlying53; have u37 := run_underlying Tryd.underlying53; have a37 := Tryd.isAgg53; have z37 := Tryd.sizeOf53; have v37 := Tryd.zeroValue53
  have t53 := Tryd.underlying40; have a53 := Tryd.isAgg40; have z53 := Tryd.sizeOf40; have v53 := Tryd.zeroValue40
  have t3 := Tryd.underlying3; have a3 := Tryd.isAgg3; have z3 := Tryd.sizeOf3; have v3 := Tryd.zeroValue3
  have t4 := Tryd.underlying4; have a4 := Tryd.isAgg4; have z4 := Tryd.sizeOf4; have v4 := Tryd.zeroValue4
  have t9 := Tryd.underlying9; have a9 := Tryd.isAgg9; have z9 := Tryd.sizeOf9; have v9 := Tryd.zeroValue9
  have t171 := Tryd.underlying58; have a171 := Tryd.isAgg58; have z171 := Tryd.sizeOf58; have v171 := Tryd.zeroValue58
  have t0 := Tryd.underlying0; have a0 := Tryd.isAgg0; have z0 := Tryd.sizeOf0; have v0 := Tryd.zeroValue0
  have e284 : ∀ args w, (callFunc 25 args).run Tryd.prog w = .ok (.enter 25 args) w := enters_of Tryd.laysM171.f284 (by kernel_rfl) rfl
  have e285 : ∀ args w, (callFunc 26 args).run Tryd.prog w = .ok (.enter 26 args) w := enters_of Tryd.laysM171.f285 (by kernel_rfl) rfl
  have hu1 : 1 ≤ u := by omega
  have hnd20 : Lib.nDigits u ≤ 20 := by have := Lib.numDigits_eq u hu1 hu64; split at this <;> omega
  have hal : (Tryd.prog).arrayLen 58 = 24 := by simp [Program.arrayLen, t171]
  have hsl : ∀ W, (Instr.sliceAt 58 (.pointer (some ⟨w.heap.size, 0, none⟩)) none (some (.int .i64 (Lib.nDigits u : Int))) none).run Tryd.prog W = .ok (.slice (some ⟨w.heap.size, 0, none⟩) (Lib.nDigits u) 24) W := fun W => by
    rw [run_sliceAt_array_h W 58 ⟨w.heap.size, 0, none⟩ (by simp [Program.arrayLen, Program.elem, t171]) .i64 (Lib.nDigits u : Int) (by omega) (by rw [hal]; omega)]
    go_simp
  have hH0 := Lib.holds_zero0 w 58 (Lib.nDigits u) (by omega)
  have hfmt := Any.internal_strconv_formatBase10 { Tryd.laysM171 with } w.heap.size 0 24 u (Array.replicate (Lib.nDigits u) 0) (w.alloc (.cells Lib.zeros24 58)) hH0 (by rw [Array.size_replicate]; exact Lib.lt_pow_nDigits u) hu64 (by rw [Array.size_replicate]; omega)
  rw [Array.size_replicate] at hfmt
  have HH0 := Lib.hid hH0
  have iu : (100 : Int) ≤ (u : Int) := by omega
  clear hH0 hal
  go_enter Tryd.func19, Tryd.ntmps19
  go_wp2_with (first
    | (go_at_fn 25; refine (Any.internal_strconv_numDigits { Tryd.laysM171 with } u hu1 hu64 _ (Lib.tabIs_alloc htab _)).mono ?_; rintro e w' ⟨rfl, rfl⟩))
  go_at_fn 26
  refine hfmt.mono ?_
  rintro e w' ⟨rfl, k, v', dk, rfl, hF⟩
  have hcv : (convert 53 9 (.slice (some ⟨w.heap.size, 0, none⟩) (Lib.nDigits u) 24)).run Tryd.prog ((putRow (fun (b : UInt8) => Value.int .u8 (b.toNat : Int)) (w.alloc (.cells Lib.zeros24 58)) w.heap.size 0 dk).drewN k) = .ok (.string ⟨(Lib.decDigits u).toArray⟩) ((putRow (fun (b : UInt8) => Value.int .u8 (b.toNat : Int)) (w.alloc (.cells Lib.zeros24 58)) w.heap.size 0 dk).drewN k) := by
    have h := run_convert_bytes_back (P := Tryd.prog) ((putRow (fun (b : UInt8) => Value.int .u8 (b.toNat : Int)) (w.alloc (.cells Lib.zeros24 58)) w.heap.size 0 dk).drewN k) 53 9 5 ⟨w.heap.size, 0, none⟩ 24 (Lib.decDigits u) t37 t5 t9 (fun j hj => by
      rw [Lib.row_is_numeral hF j hj, Lib.add_plain, World.cell?_drewN]
      exact cell?_putRow (fun (b : UInt8) => Value.int .u8 (b.toNat : Int)) _ w.heap.size 0 _ dk HH0.out (by rw [hF.size, Array.size_replicate]) j (by rw [hF.size]; rw [Lib.decDigits_length] at hj; exact hj))
    rw [Lib.decDigits_length] at h
    exact h
  go_wp2
  go_ret
  obtain ⟨os, eo⟩ := Lib.fin_at w (.cells Lib.zeros24 58) dk k 0
  exact ⟨rfl, k, os, eo⟩
end Go.Proofs.YtgomhljgjmjgfaaDoor
/- Decimal numbers, read and shown (plain). -/
namespace Go.Proofs.YtgomhljgjmjgfaaDoor
open Go Go.Lib

def isD (c : UInt8) : Prop := 48 ≤ c.toNat ∧ c.toNat ≤ 57
def val (a : Nat) (l : List UInt8) : Nat := l.foldl (fun a c => a * 10 + (c.toNat - 48)) a
theorem val_nil (a : Nat) : val a [] = a := rfl
theorem val_cons (a : Nat) (c : UInt8) (l : List UInt8) : val a (c :: l) = val (a * 10 + (c.toNat - 48)) l := by unfold val; rw [List.foldl_cons]
theorem val_snoc (a : Nat) (l : List UInt8) (c : UInt8) : val a (l ++ [c]) = val a l * 10 + (c.toNat - 48) := by simp [val]
theorem val_le (l : List UInt8) : ∀ a, a ≤ val a l := by
  induction l with
  | nil => intro a; exact Nat.le_refl _
  | cons c l ih => intro a; have := ih (a * 10 + (c.toNat - 48)); rw [val_cons]; omega
def canon (l : List UInt8) : Prop := l ≠ [] ∧ (∀ c ∈ l, isD c) ∧ (1 < l.length → l.getD 0 0 ≠ 48)
theorem dig_of (d : Nat) (h : d < 10) : (UInt8.ofNat (48 + d)).toNat = 48 + d := by rw [UInt8.toNat_ofNat']; omega
theorem dec_small (u : Nat) (h : u < 10) : decDigits u = [UInt8.ofNat (48 + u)] := by rw [decDigits, dif_pos h]
theorem dec_big (u : Nat) (h : ¬ u < 10) : decDigits u = decDigits (u / 10) ++ [UInt8.ofNat (48 + u % 10)] := by rw [decDigits, dif_neg h]
theorem dec_spec : ∀ (n u : Nat), u < n → val 0 (decDigits u) = u ∧ decDigits u ≠ [] ∧ (∀ c ∈ decDigits u, isD c) ∧ (1 ≤ u → (decDigits u).getD 0 0 ≠ 48)
  | 0, u, h => by omega
  | n + 1, u, h => by
    by_cases hu : u < 10
    · rw [dec_small u hu]
      have hd := dig_of u hu
      refine ⟨by rw [val_cons, val_nil, hd]; omega, by simp, fun c hc => ?_, fun h1 h2 => ?_⟩
      · rw [List.mem_singleton.1 hc]; unfold isD; omega
      · simp only [List.getD_cons_zero] at h2
        rw [h2] at hd
        have : (48 : UInt8).toNat = 48 := rfl
        omega
    · obtain ⟨h1, h2, h3, h4⟩ := dec_spec n (u / 10) (by omega)
      have hd := dig_of (u % 10) (by omega)
      rw [dec_big u hu]
      refine ⟨by rw [val_snoc, h1, hd]; omega, by simp, fun c hc => ?_, fun _ => ?_⟩
      · rcases List.mem_append.1 hc with hc | hc
        · exact h3 c hc
        · rw [List.mem_singleton.1 hc]; unfold isD; omega
      · have h5 := h4 (by omega)
        cases hl : decDigits (u / 10) with
        | nil => exact absurd hl h2
        | cons a b => rw [hl] at h5; simpa using h5
theorem dec_canon (u : Nat) : canon (decDigits u) := by
  obtain ⟨h1, h2, h3, h4⟩ := dec_spec (u + 1) u (Nat.lt_succ_self u)
  refine ⟨h2, h3, fun hl => h4 ?_⟩
  by_cases hu : u < 10
  · rw [dec_small u hu] at hl; simp at hl
  · omega
theorem dec_val (u : Nat) : val 0 (decDigits u) = u := (dec_spec (u + 1) u (Nat.lt_succ_self u)).1
theorem val_pos : ∀ (l : List UInt8), l ≠ [] → (∀ c ∈ l, isD c) → l.getD 0 0 ≠ 48 → 1 ≤ val 0 l
  | [], h, _, _ => absurd rfl h
  | c :: l, _, h, h0 => by
    have hc := h c (by simp)
    unfold isD at hc
    have h1 := val_le l (0 * 10 + (c.toNat - 48))
    rw [val_cons]
    simp only [List.getD_cons_zero] at h0
    have : c.toNat ≠ 48 := fun e => h0 (UInt8.toNat_inj.1 (by rw [e]; rfl))
    omega
theorem canon_dec : ∀ (n : Nat) (l : List UInt8), l.length < n → canon l → decDigits (val 0 l) = l
  | 0, l, h, _ => by omega
  | n + 1, l, h, hc => by
    obtain ⟨h1, h2, h3⟩ := hc
    rcases List.eq_nil_or_concat l with rfl | ⟨l', c, rfl⟩
    · exact absurd rfl h1
    · have hcd := h2 c (by simp)
      unfold isD at hcd
      have hce : UInt8.ofNat (48 + (c.toNat - 48)) = c := by rw [show 48 + (c.toNat - 48) = c.toNat by omega, UInt8.ofNat_toNat]
      by_cases hl : l' = []
      · subst hl
        rw [List.concat_eq_append, List.nil_append, val_cons, val_nil, dec_small _ (by omega)]
        rw [show 48 + (0 * 10 + (c.toNat - 48)) = 48 + (c.toNat - 48) by omega, hce]
      · have hlen : 1 ≤ l'.length := List.length_pos_iff.2 hl
        rw [List.concat_eq_append] at h h2 h3 ⊢
        have hg : (l' ++ [c]).getD 0 0 = l'.getD 0 0 := by
          cases l' with
          | nil => exact absurd rfl hl
          | cons a b => rfl
        have h0 : l'.getD 0 0 ≠ 48 := by rw [← hg]; exact h3 (by simp; omega)
        have hd' : ∀ x ∈ l', isD x := fun x hx => h2 x (by simp [hx])
        have hp := val_pos l' hl hd' h0
        have ih := canon_dec n l' (by simp at h; omega) ⟨hl, hd', fun _ => h0⟩
        rw [val_snoc, dec_big _ (by omega), show (val 0 l' * 10 + (c.toNat - 48)) / 10 = val 0 l' by omega, show (val 0 l' * 10 + (c.toNat - 48)) % 10 = c.toNat - 48 by omega, ih, hce]
open Classical in
noncomputable def numS (most : Nat) (l : List UInt8) : Option Nat := if canon l ∧ val 0 l ≤ most then some (val 0 l) else none
theorem numS_dec {most u : Nat} (h : u ≤ most) : numS most (decDigits u) = some u := by
  unfold numS
  rw [if_pos ⟨dec_canon u, by rw [dec_val]; exact h⟩, dec_val]
theorem parseM_ok : ∀ (l : List UInt8) (acc u : Nat), parseUintM 18446744073709551615 acc l = .ok u → (∀ c ∈ l, isD c) ∧ u = val acc l
  | [], acc, u, h => by simp only [parseUintM, NumEnd.ok.injEq] at h; exact ⟨by simp, by rw [val_nil, h]⟩
  | c :: l, acc, u, h => by
    rw [parseUintM] at h
    split at h
    · rename_i hd
      split at h
      · cases h
      · split at h
        · cases h
        · obtain ⟨h1, h2⟩ := parseM_ok l _ u h
          exact ⟨fun x hx => by rcases List.mem_cons.1 hx with rfl | hx; exact hd; exact h1 x hx, by rw [val_cons]; exact h2⟩
    · cases h
theorem parseM_of : ∀ (l : List UInt8) (acc : Nat), (∀ c ∈ l, isD c) → val acc l ≤ 18446744073709551615 → parseUintM 18446744073709551615 acc l = .ok (val acc l)
  | [], acc, _, _ => by simp only [parseUintM, val_nil]
  | c :: l, acc, h, hv => by
    have hc := h c (by simp)
    rw [val_cons] at hv ⊢
    have h1 := val_le l (acc * 10 + (c.toNat - 48))
    have hc' : 48 ≤ c.toNat ∧ c.toNat ≤ 57 := hc
    rw [parseUintM, if_pos hc', if_neg (by omega), if_neg (by omega)]
    exact parseM_of l _ (fun x hx => h x (by simp [hx])) hv
theorem parse_num (most : Nat) (hm : most ≤ 18446744073709551615) (l : List UInt8) (u : Nat) (h : parseUintB 64 l = .ok u) : numS most l = if u ≤ most ∧ decDigits u = l then some u else none := by
  unfold parseUintB at h
  split at h
  · cases h
  · rename_i hne
    obtain ⟨h1, h2⟩ := parseM_ok l 0 u h
    unfold numS
    subst h2
    by_cases hc : canon l
    · have hd := canon_dec _ l (Nat.lt_succ_self _) hc
      by_cases hle : val 0 l ≤ most
      · rw [if_pos ⟨hc, hle⟩, if_pos ⟨hle, hd⟩]
      · rw [if_neg (fun h => hle h.2), if_neg (fun h => hle h.1)]
    · rw [if_neg (fun h => hc h.1), if_neg (fun h => hc (by rw [← h.2]; exact dec_canon _))]
theorem parse_none (most : Nat) (hm : most ≤ 18446744073709551615) (l : List UInt8) (h : ∀ u, parseUintB 64 l ≠ .ok u) : numS most l = none := by
  unfold numS
  rw [if_neg]
  rintro ⟨⟨h1, h2, h3⟩, h4⟩
  refine h (val 0 l) ?_
  unfold parseUintB
  rw [if_neg h1]
  exact parseM_of l 0 h2 (by omega)
theorem long_num (most : Nat) (hm : most ≤ 4294967295) (l : List UInt8) (hl : 15 < l.length) : numS most l = none := by
  unfold numS
  rw [if_neg]
  rintro ⟨⟨h1, h2, h3⟩, h4⟩
  have h0 := h3 (by omega)
  have hg : ∀ (k : Nat) (a : Nat) (l : List UInt8), l.length = k → a * 10 ^ k ≤ val a l := by
    intro k
    induction k with
    | zero => intro a l hl; rw [List.length_eq_zero_iff.1 hl, val_nil]; simp
    | succ k ih =>
      intro a l hl
      cases l with
      | nil => simp at hl
      | cons c l =>
        have := ih (a * 10 + (c.toNat - 48)) l (by simpa using hl)
        rw [val_cons]
        refine Nat.le_trans ?_ this
        rw [Nat.pow_succ, Nat.add_mul]
        have e : a * (10 ^ k * 10) = a * 10 * 10 ^ k := by rw [Nat.mul_comm (10 ^ k) 10, Nat.mul_assoc]
        omega
  cases l with
  | nil => exact h1 rfl
  | cons c l =>
    have hc := h2 c (by simp)
    unfold isD at hc
    simp only [List.getD_cons_zero] at h0
    have hcn : c.toNat ≠ 48 := fun e => h0 (UInt8.toNat_inj.1 (by rw [e]; rfl))
    have h5 := hg l.length (0 * 10 + (c.toNat - 48)) l rfl
    rw [val_cons] at h4
    have h6 : 10 ^ 15 ≤ 10 ^ l.length := Nat.pow_le_pow_right (by decide) (by simp at hl; omega)
    have h7 : 1 * 10 ^ l.length ≤ (0 * 10 + (c.toNat - 48)) * 10 ^ l.length := Nat.mul_le_mul_right _ (by omega)
    have h8 : (10 : Nat) ^ 15 = 1000000000000000 := by decide
    omega
end Go.Proofs.YtgomhljgjmjgfaaDoor
/- Numbers of texts: the code's. -/
namespace Go.Proofs.YtgomhljgjmjgfaaDoor
open Go Go.Lift
set_option maxHeartbeats 4000000
set_option linter.unusedSimpArgs false
set_option linter.unusedVariables false
attribute [local irreducible] WK IL IP IG IW DW

structure EV where
  a : Value
  b : Value
abbrev EV.tab (e : EV) : List (Nat × List IV) := [(0, Lib.pow10Tab.map fun z => .v (.int .u64 z)), (2, [.v e.a]), (3, [.v e.b])]
def isE (e : Value) : Prop := e = .nilIface ∨ ∃ te pe, e = .iface te pe
theorem small_call (i : Nat) (hi : i < 100) : SCall Tryd.prog 24 [.v (.int .i64 i)] (.v (.string ⟨(Lib.decDigits i).toArray⟩)) [.v (.int .i64 i)] :=
  SCall.of_kit (xs := [.int .i64 i]) (BRv.v _) fun w => by
    refine (Any.internal_strconv_small { Tryd.laysM171 with } i hi w).mono ?_
    rintro e w' ⟨rfl, rfl⟩
    exact ⟨rfl, Fr.refl _ _⟩
theorem ifu_small (i : Nat) (hi : i < 100) : SCall Tryd.prog 19 [.v (.int .u64 i), .v (.int .i64 10)] (.v (.string ⟨(Lib.decDigits i).toArray⟩)) [.v (.int .u64 i), .v (.int .i64 10)] := by
  refine SCall.of_body' (TT := TT) (fun _ => false) [false, false] ttok Tryd.func19 rfl (Nat.le_of_ble_eq_true rfl) rfl fun fx hfx => WK.top ?_
  simp only [impl, imp, argT, List.append_nil, List.map_nil, List.nil_append, show Tryd.f19.ntmps = 32 from rfl, Nat.zero_add, Nat.reduceAdd]
  repeat' (first | refine WK.seq ?_ | refine WK.reg ?_ | refine IL.nil ?_ | refine WK.skip ?_ | (with_reducible refine IL.wr ?_ ?_; focus exact cW) | refine IL.sg ttok ?_ | refine IL.cS ttok ent24 [.bor] true ?_ (hS := by exact small_call _ hi) | (refine WK.cn (fun h => ?_) (fun h => ?_); all_goals first | (simp only [reduceCtorEq] at h; done) | (simp only [hsA, hsD, hsE, ne_eq] at h; first | done | (exfalso; omega; done) | skip) | skip))
  all_goals try ((first | refine WK.ret ⟨.inr rfl, ?_⟩ | refine ⟨.inl rfl, ?_⟩ | refine ⟨.inl trivial, ?_⟩); refine Fin.o ?_ ?_ (h1 := by first | rfl | (simp only [go_sem, show Tryd.f19.results.toList = [.tmp 4] from rfl, reduceIte] <;> rfl)); rotate_left 1; (focus (first | rfl | skip)); all_goals try with_reducible rfl)
  all_goals skip
theorem ifu_call (ev : EV) (u : Nat) (h : u < 18446744073709551616) : SCallG ev.tab Tryd.prog 19 [.v (.int .u64 u), .v (.int .i64 10)] (.v (.string ⟨(Lib.decDigits u).toArray⟩)) [.v (.int .u64 u), .v (.int .i64 10)] := by
  by_cases hs : u < 100
  · exact (ifu_small u hs).toG
  · exact SCallG.of_kit (xs := [.int .u64 u, .int .i64 10]) (BRv.v _) fun w R hG => by
      refine (ifu_big u (by omega) h w (GOk.tab hG (by kernel_rfl) (List.Mem.head _))).mono ?_
      rintro e w' ⟨rfl, k, os, rfl⟩
      exact ⟨rfl, fr_of_below (below_grow w k os)⟩
theorem fu_call (ev : EV) (u : Nat) (h : u < 18446744073709551616) : SCallG ev.tab Tryd.prog 11 [.v (.int .u64 u), .v (.int .i64 10)] (.v (.string ⟨(Lib.decDigits u).toArray⟩)) [.v (.int .u64 u), .v (.int .i64 10)] := by
  refine SCallG.of_body' (G := ev.tab) (TT := TT) (fun _ => false) [false, false] ttok Tryd.func11 rfl (Nat.le_of_ble_eq_true rfl) rfl fun fx hfx hgf => WK.top ?_
  simp only [impl, imp, argT, List.append_nil, List.map_nil, List.nil_append, show Tryd.f11.ntmps = 8 from rfl, Nat.zero_add, Nat.reduceAdd]
  repeat' (first | refine WK.seq ?_ | refine WK.reg ?_ | refine IL.nil ?_ | (with_reducible refine IL.wr ?_ ?_; focus exact cW) | refine IL.sg ttok ?_ | refine IL.cSG hgf ttok ent19 [.bor, .bor] true ?_ (hS := by exact ifu_call _ _ h))
  all_goals try ((first | refine WK.ret ⟨.inr rfl, ?_⟩ | refine ⟨.inl rfl, ?_⟩ | refine ⟨.inl trivial, ?_⟩); refine Fin.o ?_ ?_ (h1 := by first | rfl | (simp only [go_sem, show Tryd.f11.results.toList = [.tmp 4] from rfl, reduceIte] <;> rfl)); rotate_left 1; (focus (first | rfl | skip)); all_goals try with_reducible rfl)
  all_goals skip
theorem GOk.cell1 {G : List (Nat × List IV)} {R : Nat → Prop} {w : World} {g : Nat} {e : Value} (hG : GOk G R w) (hm : (g, [IV.v e]) ∈ G) : w.cell? ⟨g, 0, none⟩ = some e := by
  obtain ⟨_, h2, _⟩ := hG _ hm
  obtain ⟨y, h3, h4, _⟩ := TRm.get h2 0 (.v e) rfl
  unfold TR at h4
  subst h4
  exact h3
def numV (l : List UInt8) : Nat := match Lib.parseUintB 64 l with
  | .ok u => u
  | .range => 18446744073709551615
  | _ => 0
open Classical in
theorem number_calls (ev : EV) (he2 : isE ev.a) (he3 : isE ev.b) (s : List UInt8) (most : Nat) (hm : most ≤ 18446744073709551615) (hs : s.length ≤ 1000000) (w : World) (R : Nat → Prop) (hlt : ∀ b, R b → b < w.heap.size) (hG : GOk ev.tab R w) :
    Calls Tryd.prog 13 #[.string ⟨s.toArray⟩, .int .u64 most] w fun e w' => e = .returned (.tuple #[.int .u64 (numV s), .bool (numS most s).isSome]) ∧ Fr w w' [] := by
  have hc2 := GOk.cell1 hG (List.Mem.tail _ (List.Mem.head _))
  have hc3 := GOk.cell1 hG (List.Mem.tail _ (List.Mem.tail _ (List.Mem.head _)))
  have hmix := mixed
  have hsl : (ByteArray.mk s.toArray).data.toList = s := by simp
  have hsz : (ByteArray.mk s.toArray).size = s.length := ba_size s
  have q1 := Tryd.underlying50; have q2 := Tryd.isAgg50; have q3 := Tryd.sizeOf50; have q4 := run_underlying Tryd.underlying50
  have q5 := Tryd.underlying40; have q6 := Tryd.isAgg40; have q7 := Tryd.sizeOf40
  have q8 := Tryd.underlying9; have q9 := Tryd.isAgg9; have q10 := Tryd.sizeOf9
  have q11 := Tryd.underlying4; have q12 := Tryd.isAgg4; have q13 := Tryd.sizeOf4
  have ep : ∀ args w, (callFunc 21 args).run Tryd.prog w = .ok (.enter 21 args) w := enters_of Tryd.func21 (by kernel_rfl) rfl
  have ef : ∀ args w, (callFunc 11 args).run Tryd.prog w = .ok (.enter 11 args) w := enters_of Tryd.func11 (by kernel_rfl) rfl
  rcases hp : Lib.parseUintB 64 s with u | _ | _
  ·
    have hv : numV s = u := by unfold numV; rw [hp]
    have hn := parse_num most hm s u hp
    rw [hv, hn]
    clear hv hn
    have hfu : u < 18446744073709551616 → ∀ w1, Fr w w1 [] → Calls Tryd.prog 11 #[.int .u64 u, .int .i64 10] w1 fun e w' => e = .returned (.string ⟨(Lib.decDigits u).toArray⟩) ∧ Fr w1 w' [] := fun hu w1 hf => by
      have hR : HeapEq R w w1 := fun b hb => hf.hblk b (hlt b hb) fun o ⟨_, h, _⟩ => by simp at h
      refine (fu_call ev u hu w1 R [.int .u64 u, .int .i64 10] [] (BRl_vs [.int .u64 u, .int .i64 10]) (by simp [Disj]) (fun b hb => Nat.lt_of_lt_of_le (hlt b hb) hf.hsize) (fun b o _ ⟨_, h, _⟩ => by simp at h) (hG.mono (fun _ h => h) hR)).mono ?_
      rintro e w' ⟨v, R', o1, o2, rfl, hv, _, _, _, _, _, _, hf'⟩
      unfold BR at hv
      obtain ⟨rfl, _⟩ := hv
      exact ⟨rfl, hf'⟩
    have hpu : Calls Tryd.prog 21 #[.string ⟨s.toArray⟩, .int .i64 10, .int .i64 64] w fun e w' => e = .returned (.tuple #[.int .u64 u, .nilIface]) ∧ Fr w w' [] := by
      refine (Any.strconv_ParseUint_10_at64_ok Tryd.laysPu14 ⟨s.toArray⟩ (by rw [hsz]; omega) u (by rw [hsl]; exact hp) w).mono ?_
      rintro e w1 ⟨rfl, rfl | rfl⟩
      · exact ⟨rfl, Fr.refl _ _⟩
      · exact ⟨rfl, fr_of_below (Lib.bytesWorld_below _ _ _)⟩
    by_cases hle : u ≤ most
    · rw [show (if u ≤ most ∧ Lib.decDigits u = s then some u else none).isSome = decide (Lib.decDigits u = s) by by_cases hd : Lib.decDigits u = s <;> simp [hle, hd]]
      rw [show decide (Lib.decDigits u = s) = (Lib.decDigits u == s) from Bool.eq_iff_iff.2 (by simp)]
      go_enter Tryd.func13, Tryd.ntmps13
      go_wp2_with fail
      refine hpu.mono ?_
      rintro e w1 ⟨rfl, hf⟩
      have HF : RowKit.Hid (Fr w w1 []) := hf
      have HU : RowKit.Hid (u < 18446744073709551616 → Calls Tryd.prog 11 #[.int .u64 u, .int .i64 10] w1 fun e w' => e = .returned (.string ⟨(Lib.decDigits u).toArray⟩) ∧ Fr w1 w' []) := fun hu => hfu hu w1 hf
      clear hf hpu hfu
      go_wp2_with fail
      refine (HU (by omega)).mono ?_
      rintro e w2 ⟨rfl, hf2⟩
      have HF2 : RowKit.Hid (Fr w w2 []) := HF.trans hf2 fun b o ⟨_, h, _⟩ => by simp at h
      clear hf2 HF HU
      go_wp2
      go_ret2
      exact ⟨rfl, HF2⟩
    · rw [if_neg (fun h => hle h.1)]
      go_enter Tryd.func13, Tryd.ntmps13
      go_wp2_with fail
      refine hpu.mono ?_
      rintro e w1 ⟨rfl, hf⟩
      have HF : RowKit.Hid (Fr w w1 []) := hf
      have HU : RowKit.Hid (u < 18446744073709551616 → Calls Tryd.prog 11 #[.int .u64 u, .int .i64 10] w1 fun e w' => e = .returned (.string ⟨(Lib.decDigits u).toArray⟩) ∧ Fr w1 w' []) := fun hu => hfu hu w1 hf
      clear hf hpu hfu
      go_wp2
      go_ret2
      exact ⟨rfl, HF⟩
  ·
    have hv : numV s = 0 := by unfold numV; rw [hp]
    have hn : numS most s = none := parse_none most hm s (fun u h => by rw [hp] at h; cases h)
    rw [hv, hn]
    clear hv hn
    go_enter Tryd.func13, Tryd.ntmps13
    have hpu : Calls Tryd.prog 21 #[.string ⟨s.toArray⟩, .int .i64 10, .int .i64 64] w fun e w' => (∃ N, e = .returned (.tuple #[.int .u64 0, .iface 76 (.pointer (some ⟨N, 0, none⟩))])) ∧ Fr w w' [] := by
      refine (Any.strconv_ParseUint_10_at64_syntax Tryd.laysPu14 ⟨s.toArray⟩ (by rw [hsz]; omega) (by rw [hsl]; exact hp) ev.a w hc2 he2).mono ?_
      rintro e w1 ⟨N, rfl, hN, hN2, hb⟩
      exact ⟨⟨N, rfl⟩, fr_of_below hb⟩
    go_wp2_with fail
    refine hpu.mono ?_
    rintro e w1 ⟨⟨N, rfl⟩, hf⟩
    have HF : RowKit.Hid (Fr w w1 []) := hf
    clear hf hpu
    go_wp2
    go_ret2
    exact ⟨rfl, HF⟩
  ·
    have hv : numV s = 18446744073709551615 := by unfold numV; rw [hp]
    have hn : numS most s = none := parse_none most hm s (fun u h => by rw [hp] at h; cases h)
    rw [hv, hn]
    clear hv hn
    go_enter Tryd.func13, Tryd.ntmps13
    have hpu : Calls Tryd.prog 21 #[.string ⟨s.toArray⟩, .int .i64 10, .int .i64 64] w fun e w' => (∃ N, e = .returned (.tuple #[.int .u64 18446744073709551615, .iface 76 (.pointer (some ⟨N, 0, none⟩))])) ∧ Fr w w' [] := by
      refine (Any.strconv_ParseUint_10_at64_range Tryd.laysPu14 ⟨s.toArray⟩ (by rw [hsz]; omega) (by rw [hsl]; exact hp) ev.b w hc3 he3).mono ?_
      rintro e w1 ⟨N, rfl, hN, hN2, hb⟩
      exact ⟨⟨N, rfl⟩, fr_of_below hb⟩
    go_wp2_with fail
    refine hpu.mono ?_
    rintro e w1 ⟨⟨N, rfl⟩, hf⟩
    have HF : RowKit.Hid (Fr w w1 []) := hf
    clear hf hpu
    go_wp2
    go_ret2
    exact ⟨rfl, HF⟩
open Classical in
theorem number_call (ev : EV) (he2 : isE ev.a) (he3 : isE ev.b) (s : List UInt8) (most : Nat) (hm : most ≤ 18446744073709551615) (hs : s.length ≤ 1000000) :
    SCallG ev.tab Tryd.prog 13 [.v (.string ⟨s.toArray⟩), .v (.int .u64 most)] (.tup [.v (.int .u64 (numV s)), .v (.bool (numS most s).isSome)]) [.v (.string ⟨s.toArray⟩), .v (.int .u64 most)] := by
  intro w R vals os hB hd hlt hno hG
  obtain ⟨rfl, rfl⟩ := BRl_vs_inv (xs := [.string ⟨s.toArray⟩, .int .u64 most]) hB
  refine (number_calls ev he2 he3 s most hm hs w R hlt hG).mono ?_
  rintro e w' ⟨rfl, hf⟩
  exact ⟨_, R, [], [], rfl, BRv.tup [.int .u64 (numV s), .bool (numS most s).isSome] R w', BRl_vs [.string ⟨s.toArray⟩, .int .u64 most], by simp [Disj], fun b hb => hb, fun b hb => ⟨Nat.lt_of_lt_of_le (hlt b hb) hf.hsize, .inl hb⟩, fun b o _ ⟨z, hz, _⟩ => by simp at hz, fun b o ⟨z, hz, _⟩ => by simp at hz, hf⟩
end Go.Proofs.YtgomhljgjmjgfaaDoor
/- Texts of IDs: strings.Cut at a colon; the document's Number, Read. -/
namespace Go.Proofs.YtgomhljgjmjgfaaDoor
open Go Go.Lift
set_option maxHeartbeats 4000000
set_option linter.unusedSimpArgs false
set_option linter.unusedVariables false
attribute [local irreducible] WK IL IP IG IW DW

theorem idx_call (t : List UInt8) : SCall Tryd.prog 28 [.v (.string ⟨t.toArray⟩), .v (.string ⟨#[58]⟩)] (.v (.int .i64 (Lib.indexByte t 58))) [.v (.string ⟨t.toArray⟩), .v (.string ⟨#[58]⟩)] :=
  (SCallG.of_kit (G := []) (P := Tryd.prog) (f := 28) (xs := [.string ⟨t.toArray⟩, .string ⟨#[58]⟩]) (BRv.v (.int .i64 (Lib.indexByte t 58))) fun w R hG => by
    refine (Any.stringslite_Index_one Tryd.lays219 ⟨t.toArray⟩ 58 w).mono ?_
    rintro e w' ⟨rfl, rfl⟩
    exact ⟨by simp, Fr.refl _ _⟩).toS
theorem cut_colon (t : List UInt8) : (Lib.indexByte t 58 = -1 ∧ (58 : UInt8) ∉ t) ∨ ∃ p q, t = p ++ 58 :: q ∧ (58 : UInt8) ∉ p ∧ Lib.indexByte t 58 = p.length := by
  have hge := Lib.indexByte_ge t 58
  by_cases h : Lib.indexByte t 58 = -1
  · refine .inl ⟨h, fun hm => ?_⟩
    obtain ⟨k, hk⟩ := List.mem_iff_getElem?.1 hm
    exact Lib.indexByte_none h k hk
  · obtain ⟨o, ho⟩ : ∃ o : Nat, Lib.indexByte t 58 = o := ⟨(Lib.indexByte t 58).toNat, by omega⟩
    obtain ⟨h1, h2⟩ := Lib.indexByte_some ho
    have hlt := (List.getElem?_eq_some_iff.1 h1).1
    refine .inr ⟨t.take o, t.drop (o + 1), ?_, fun hm => ?_, ?_⟩
    · have := (List.take_append_drop o t).symm
      rw [List.drop_eq_getElem_cons hlt, (List.getElem?_eq_some_iff.1 h1).2] at this
      exact this
    · obtain ⟨k, hk⟩ := List.mem_iff_getElem?.1 hm
      rw [List.getElem?_take] at hk
      split at hk
      · exact h2 k ‹_› hk
      · cases hk
    · rw [ho, List.length_take]; omega
theorem scut_none (t : List UInt8) (h : Lib.indexByte t 58 = -1) : SCall Tryd.prog 20 [.v (.string ⟨t.toArray⟩), .v (.string ⟨#[58]⟩)] (.tup [.v (.string ⟨t.toArray⟩), .v (.string ⟨#[]⟩), .v (.bool false)]) [.v (.string ⟨t.toArray⟩), .v (.string ⟨#[58]⟩)] := by
  have hix := idx_call t
  rw [h] at hix
  refine SCall.of_body' (TT := TT) (fun _ => false) [false, false] ttok Tryd.func20 rfl (Nat.le_of_ble_eq_true rfl) rfl fun fx hfx => WK.top ?_
  simp only [impl, imp, argT, List.append_nil, List.map_nil, List.nil_append, show Tryd.f20.ntmps = 23 from rfl, Nat.zero_add, Nat.reduceAdd]
  repeat' (first | refine WK.seq ?_ | refine WK.reg ?_ | refine IL.nil ?_ | refine WK.skip ?_ | refine WK.drawnS (id := 3) mixed [] [] [] [] (by decide +kernel) ?_ | refine DW.nil ?_ | (with_reducible refine IL.wr ?_ ?_; focus exact cW) | (with_reducible refine DW.wr ?_ ?_; focus exact cW) | refine IL.sg ttok ?_ | refine DW.re ttok ?_ | refine DW.rm ttok ?_ | refine IL.cS ttok ent28 [.bor, .bor] true ?_ (hS := by exact hix) | (refine WK.cn (fun h => ?_) (fun h => ?_); all_goals first | (simp only [reduceCtorEq] at h; done) | (simp only [hsA, hsD, hsE, ne_eq] at h; first | done | (exfalso; omega; done) | skip) | skip))
  all_goals try ((first | refine WK.ret ⟨.inr rfl, ?_⟩ | refine ⟨.inl rfl, ?_⟩ | refine ⟨.inl trivial, ?_⟩); refine Fin.o ?_ ?_ (h1 := by first | rfl | (simp only [go_sem, show Tryd.f20.results.toList = [.tmp 4, .tmp 5, .tmp 6] from rfl, reduceIte] <;> rfl)); rotate_left 1; (focus (first | rfl | skip)); all_goals try with_reducible rfl)
  all_goals skip
theorem scut_some (t p q : List UInt8) (ht : t = p ++ 58 :: q) (hl : t.length ≤ 1000000) (h : Lib.indexByte t 58 = p.length) : SCall Tryd.prog 20 [.v (.string ⟨t.toArray⟩), .v (.string ⟨#[58]⟩)] (.tup [.v (.string ⟨p.toArray⟩), .v (.string ⟨q.toArray⟩), .v (.bool true)]) [.v (.string ⟨t.toArray⟩), .v (.string ⟨#[58]⟩)] := by
  have hix := idx_call t
  rw [h] at hix
  have h1 : t.take p.length = p := by rw [ht]; simp
  have h2 : (t.drop (p.length + 1)).take (t.length - (p.length + 1)) = q := by
    have : t.drop (p.length + 1) = q := by rw [ht, List.drop_append]; simp
    rw [this, ht]; exact List.take_of_length_le (by simp; omega)
  have hlt : p.length + 1 ≤ t.length := by rw [ht]; simp
  have hz : (ByteArray.mk #[(58 : UInt8)]).size = 1 := rfl
  generalize p.length = n at *
  refine SCall.of_body' (TT := TT) (fun _ => false) [false, false] ttok Tryd.func20 rfl (Nat.le_of_ble_eq_true rfl) rfl fun fx hfx => WK.top ?_
  simp only [impl, imp, argT, List.append_nil, List.map_nil, List.nil_append, show Tryd.f20.ntmps = 23 from rfl, Nat.zero_add, Nat.reduceAdd]
  have FX := And.intro h1 (And.intro h2 hz)
  repeat' (first | refine WK.seq ?_ | refine WK.reg ?_ | refine IL.nil ?_ | refine WK.skip ?_ | refine WK.drawnS (id := 3) mixed [] [] [] [] (by decide +kernel) ?_ | refine DW.nil ?_ | (with_reducible refine IL.wr ?_ ?_; focus exact cW) | (with_reducible refine DW.wr ?_ ?_; focus exact cW) | refine IL.sgF ttok ?_ | refine DW.reF ttok ?_ | refine DW.rmF ttok ?_ | refine IL.cSF ttok ent28 [.bor, .bor] true ?_ (hS := by exact hix) | (refine WK.cn (fun h => ?_) (fun h => ?_); all_goals first | (simp only [reduceCtorEq] at h; done) | (simp only [hsA, hsD, hsE, ne_eq] at h; first | done | (exfalso; omega; done) | skip) | skip))
  all_goals try ((first | refine WK.ret ⟨.inr rfl, ?_⟩ | refine ⟨.inl rfl, ?_⟩ | refine ⟨.inl trivial, ?_⟩); refine Fin.o ?_ ?_ (h1 := by first | rfl | (simp only [go_sem, show Tryd.f20.results.toList = [.tmp 4, .tmp 5, .tmp 6] from rfl, reduceIte] <;> rfl)); rotate_left 1; (focus (first | rfl | skip)); all_goals try with_reducible rfl)
  all_goals (rw [show ((n : Int) + ((1 : Nat) : Int)).toNat = n + 1 from by omega, h2])
theorem cut_none (t : List UInt8) (h : Lib.indexByte t 58 = -1) : SCall Tryd.prog 12 [.v (.string ⟨t.toArray⟩), .v (.string ⟨#[58]⟩)] (.tup [.v (.string ⟨t.toArray⟩), .v (.string ⟨#[]⟩), .v (.bool false)]) [.v (.string ⟨t.toArray⟩), .v (.string ⟨#[58]⟩)] := by
  have hct := scut_none t h
  refine SCall.of_body' (TT := TT) (fun _ => false) [false, false] ttok Tryd.func12 rfl (Nat.le_of_ble_eq_true rfl) rfl fun fx hfx => WK.top ?_
  simp only [impl, imp, argT, List.append_nil, List.map_nil, List.nil_append, show Tryd.f12.ntmps = 13 from rfl, Nat.zero_add, Nat.reduceAdd]
  repeat' (first | refine WK.seq ?_ | refine WK.reg ?_ | refine IL.nil ?_ | (with_reducible refine IL.wr ?_ ?_; focus exact cW) | refine IL.sg ttok ?_ | refine IL.cS ttok ent20 [.bor, .bor] true ?_ (hS := by exact hct))
  all_goals try ((first | refine WK.ret ⟨.inr rfl, ?_⟩ | refine ⟨.inl rfl, ?_⟩ | refine ⟨.inl trivial, ?_⟩); refine Fin.o ?_ ?_ (h1 := by first | rfl | (simp only [go_sem, show Tryd.f12.results.toList = [.tmp 4, .tmp 5, .tmp 6] from rfl, reduceIte] <;> rfl)); rotate_left 1; (focus (first | rfl | skip)); all_goals try with_reducible rfl)
  all_goals skip
theorem cut_some (t p q : List UInt8) (ht : t = p ++ 58 :: q) (hl : t.length ≤ 1000000) (h : Lib.indexByte t 58 = p.length) : SCall Tryd.prog 12 [.v (.string ⟨t.toArray⟩), .v (.string ⟨#[58]⟩)] (.tup [.v (.string ⟨p.toArray⟩), .v (.string ⟨q.toArray⟩), .v (.bool true)]) [.v (.string ⟨t.toArray⟩), .v (.string ⟨#[58]⟩)] := by
  have hct := scut_some t p q ht hl h
  refine SCall.of_body' (TT := TT) (fun _ => false) [false, false] ttok Tryd.func12 rfl (Nat.le_of_ble_eq_true rfl) rfl fun fx hfx => WK.top ?_
  simp only [impl, imp, argT, List.append_nil, List.map_nil, List.nil_append, show Tryd.f12.ntmps = 13 from rfl, Nat.zero_add, Nat.reduceAdd]
  repeat' (first | refine WK.seq ?_ | refine WK.reg ?_ | refine IL.nil ?_ | (with_reducible refine IL.wr ?_ ?_; focus exact cW) | refine IL.sg ttok ?_ | refine IL.cS ttok ent20 [.bor, .bor] true ?_ (hS := by exact hct))
  all_goals try ((first | refine WK.ret ⟨.inr rfl, ?_⟩ | refine ⟨.inl rfl, ?_⟩ | refine ⟨.inl trivial, ?_⟩); refine Fin.o ?_ ?_ (h1 := by first | rfl | (simp only [go_sem, show Tryd.f12.results.toList = [.tmp 4, .tmp 5, .tmp 6] from rfl, reduceIte] <;> rfl)); rotate_left 1; (focus (first | rfl | skip)); all_goals try with_reducible rfl)
  all_goals skip
open Classical in
noncomputable def refV (l : List UInt8) : Nat := if (l.length < 1 ∨ 15 < l.length ∨ (1 < l.length ∧ l.getD 0 0 = 48)) ∨ ¬ (∀ c ∈ l, isD c) then 0 else val 0 l
theorem val_lt (l : List UInt8) : ∀ a k, (∀ c ∈ l, isD c) → a < 10 ^ k → val a l < 10 ^ (k + l.length) := by
  induction l with
  | nil => intro a k _ h; simpa [val_nil] using h
  | cons c l ih =>
    intro a k hc h
    have h1 := hc c (by simp)
    unfold isD at h1
    rw [val_cons, List.length_cons, show k + (l.length + 1) = (k + 1) + l.length by omega]
    refine ih _ _ (fun x hx => hc x (by simp [hx])) ?_
    rw [Nat.pow_succ]; omega
theorem numS_refV {most : Nat} (hm : most ≤ 4294967295) {l : List UInt8} {u : Nat} (h : numS most l = some u) : refV l = u ∧ numV l = u ∧ u ≤ most := by
  by_cases hl : 15 < l.length
  · rw [long_num most hm l hl] at h; cases h
  unfold numS at h
  split at h
  · rename_i hc
    obtain ⟨⟨h1, h2, h3⟩, h4⟩ := hc
    cases h
    refine ⟨?_, ?_, h4⟩
    · unfold refV
      rw [if_neg]
      rintro ((h | h | ⟨h, h'⟩) | h)
      · exact h1 (List.eq_nil_of_length_eq_zero (by omega))
      · exact hl h
      · exact h3 h h'
      · exact h h2
    · unfold numV Lib.parseUintB
      rw [if_neg h1, parseM_of l 0 h2 (by omega)]
  · cases h
end Go.Proofs.YtgomhljgjmjgfaaDoor
/- package ident, and the document's answer for it: what the functions give. -/
namespace Go.Proofs.YtgomhljgjmjgfaaDoor
open Go Go.Lift
set_option linter.unusedSimpArgs false
set_option linter.unusedVariables false
attribute [local irreducible] WK IL IP IG IW DW

theorem nan16 (a : Int) : SCall Tryd.prog 22 [.v (.int .u16 a)] (.v (.bool false)) [.v (.int .u16 a)] := by
  refine SCall.of_body' (TT := TT) (fun _ => false) [false] ttok Tryd.func22 rfl (Nat.le_of_ble_eq_true rfl) rfl fun fx hfx => WK.top ?_
  simp only [impl, imp, argT, List.append_nil, List.map_nil, List.nil_append, show Tryd.f22.ntmps = 6 from rfl, Nat.zero_add, Nat.reduceAdd]
  repeat' (first | refine WK.seq ?_ | refine WK.reg ?_ | refine IL.nil ?_ | (with_reducible refine IL.wr ?_ ?_; focus exact cW) | refine IL.sg ttok ?_ (h := by intro K hK; simp only [go_sem, reduceIte, bne_self_eq_false]; exact cK hK))
  ((first | refine WK.ret ⟨.inr rfl, ?_⟩ | refine ⟨.inl rfl, ?_⟩ | refine ⟨.inl trivial, ?_⟩); refine Fin.o ?_ ?_ (h1 := by first | rfl | (simp only [go_sem, show Tryd.f22.results.toList = [.tmp 2] from rfl, reduceIte] <;> rfl)); rotate_left 1; (focus (first | rfl | skip)); all_goals try with_reducible rfl)
theorem nan32 (a : Int) : SCall Tryd.prog 23 [.v (.int .u32 a)] (.v (.bool false)) [.v (.int .u32 a)] := by
  refine SCall.of_body' (TT := TT) (fun _ => false) [false] ttok Tryd.func23 rfl (Nat.le_of_ble_eq_true rfl) rfl fun fx hfx => WK.top ?_
  simp only [impl, imp, argT, List.append_nil, List.map_nil, List.nil_append, show Tryd.f23.ntmps = 6 from rfl, Nat.zero_add, Nat.reduceAdd]
  repeat' (first | refine WK.seq ?_ | refine WK.reg ?_ | refine IL.nil ?_ | (with_reducible refine IL.wr ?_ ?_; focus exact cW) | refine IL.sg ttok ?_ (h := by intro K hK; simp only [go_sem, reduceIte, bne_self_eq_false]; exact cK hK))
  ((first | refine WK.ret ⟨.inr rfl, ?_⟩ | refine ⟨.inl rfl, ?_⟩ | refine ⟨.inl trivial, ?_⟩); refine Fin.o ?_ ?_ (h1 := by first | rfl | (simp only [go_sem, show Tryd.f23.results.toList = [.tmp 2] from rfl, reduceIte] <;> rfl)); rotate_left 1; (focus (first | rfl | skip)); all_goals try with_reducible rfl)
def cmpI (a b : Int) : Int := if a < b then -1 else if a > b then 1 else 0
theorem cmp16 (a b : Int) : SCall Tryd.prog 17 [.v (.int .u16 a), .v (.int .u16 b)] (.v (.int .i64 (cmpI a b))) [.v (.int .u16 a), .v (.int .u16 b)] := by
  refine SCall.of_body' (TT := TT) (fun _ => false) [false, false] ttok Tryd.func17 rfl (Nat.le_of_ble_eq_true rfl) rfl fun fx hfx => WK.top ?_
  simp only [impl, imp, argT, List.append_nil, List.map_nil, List.nil_append, show Tryd.f17.ntmps = 20 from rfl, Nat.zero_add, Nat.reduceAdd]
  repeat' (first | refine WK.seq ?_ | refine WK.reg ?_ | refine IL.nil ?_ | refine WK.skip ?_ | (with_reducible refine IL.wr ?_ ?_; focus exact cW) | refine IL.sg ttok ?_ | refine IL.cS ttok ent22 [.bor] true ?_ (hS := by exact nan16 _) | (refine WK.cn (fun h => ?_) (fun h => ?_); all_goals first | (simp only [reduceCtorEq] at h; done) | (simp only [hsA, hsD, hsE, ne_eq] at h; first | done | (exfalso; omega; done) | skip) | skip))
  all_goals try ((first | refine WK.ret ⟨.inr rfl, ?_⟩ | refine ⟨.inl rfl, ?_⟩ | refine ⟨.inl trivial, ?_⟩); refine Fin.o ?_ ?_ (h1 := by first | rfl | (simp only [go_sem, show Tryd.f17.results.toList = [.tmp 4] from rfl, reduceIte] <;> rfl)); rotate_left 1; (focus (first | rfl | skip)); all_goals try with_reducible rfl)
  all_goals grind [cmpI]
theorem cmp32 (a b : Int) : SCall Tryd.prog 18 [.v (.int .u32 a), .v (.int .u32 b)] (.v (.int .i64 (cmpI a b))) [.v (.int .u32 a), .v (.int .u32 b)] := by
  refine SCall.of_body' (TT := TT) (fun _ => false) [false, false] ttok Tryd.func18 rfl (Nat.le_of_ble_eq_true rfl) rfl fun fx hfx => WK.top ?_
  simp only [impl, imp, argT, List.append_nil, List.map_nil, List.nil_append, show Tryd.f18.ntmps = 20 from rfl, Nat.zero_add, Nat.reduceAdd]
  repeat' (first | refine WK.seq ?_ | refine WK.reg ?_ | refine IL.nil ?_ | refine WK.skip ?_ | (with_reducible refine IL.wr ?_ ?_; focus exact cW) | refine IL.sg ttok ?_ | refine IL.cS ttok ent23 [.bor] true ?_ (hS := by exact nan32 _) | (refine WK.cn (fun h => ?_) (fun h => ?_); all_goals first | (simp only [reduceCtorEq] at h; done) | (simp only [hsA, hsD, hsE, ne_eq] at h; first | done | (exfalso; omega; done) | skip) | skip))
  all_goals try ((first | refine WK.ret ⟨.inr rfl, ?_⟩ | refine ⟨.inl rfl, ?_⟩ | refine ⟨.inl trivial, ?_⟩); refine Fin.o ?_ ?_ (h1 := by first | rfl | (simp only [go_sem, show Tryd.f18.results.toList = [.tmp 4] from rfl, reduceIte] <;> rfl)); rotate_left 1; (focus (first | rfl | skip)); all_goals try with_reducible rfl)
  all_goals grind [cmpI]
def orI : List Int → Int
  | [] => 0
  | a :: l => if a = 0 then orI l else a
def icells (l : List Int) : List IV := l.map fun a => .v (.int .i64 a)
theorem or_call (l : List Int) (hl : l.length < 2 ^ 62) : SCall Tryd.prog 16 [.tr l.length (icells l)] (.v (.int .i64 (orI l))) [.tr l.length (icells l)] := by
  refine SCall.of_body' (TT := TT) (fun _ => false) [false] ttok Tryd.func16 rfl (Nat.le_of_ble_eq_true rfl) rfl fun fx hfx => WK.top ?_
  simp only [impl, imp, argT, List.append_nil, List.map_nil, List.nil_append, show Tryd.f16.ntmps = 18 from rfl, Nat.zero_add, Nat.reduceAdd]
  repeat' (first | refine WK.seq ?_ | refine WK.reg ?_ | refine IL.nil ?_ | refine WK.skip ?_ | refine WK.block ?_ | refine WK.exit_here ?_ | refine WK.e1 ?_ | refine WK.e2 ?_ | (with_reducible refine IL.wr ?_ ?_; focus exact cW) | refine IL.sg ttok ?_ | (refine WK.cn (fun h => ?_) (fun h => ?_); all_goals first | (simp only [reduceCtorEq] at h; done) | (simp only [hsA, hsD, hsE, ne_eq] at h; first | done | (exfalso; omega; done) | skip) | skip))
  refine WK.forS l.length (fun k => orI (l.drop k) = orI l) (fun k => ⟨18, [(0, .tr l.length (icells l)), (3, .v (.int .i64 0)), (6, .tr l.length (icells l)), (7, .v (.int .i64 l.length)), (8, .v (.int .i64 k))], []⟩) ⟨rfl, ?_⟩ (fun k hk ho => ?_) (fun ho => ?_)
  · (refine Weak.cut' rfl rfl ?_; exact cA)
  · have hx : (icells l)[k]? = some (.v (.int .i64 (l[k]))) := by simp [icells, hk]
    have hne : icells l ≠ [] := by intro e; rw [e] at hx; simp at hx
    have hd : l.drop k = l[k] :: l.drop (k + 1) := List.drop_eq_getElem_cons hk
    rw [hd] at ho
    have FX := hx
    repeat' (first | refine WK.seq ?_ | refine WK.reg ?_ | refine IL.nil ?_ | refine WK.skip ?_ | refine WK.block ?_ | refine WK.exit_here ?_ | refine WK.e1 ?_ | refine WK.e2 ?_ | (with_reducible refine IL.wr ?_ ?_; focus exact cW) | refine IL.sgF ttok ?_ | (refine WK.cn (fun h => ?_) (fun h => ?_); all_goals first | (simp only [reduceCtorEq] at h; done) | (simp only [hsA, hsD, hsE, ne_eq] at h; first | done | (exfalso; omega; done) | skip) | skip))
    all_goals try ((first | refine WK.ret ⟨.inr rfl, ?_⟩ | refine ⟨.inl rfl, ?_⟩ | refine ⟨.inl trivial, ?_⟩); refine Fin.o ?_ ?_ (h1 := by first | rfl | (simp only [go_sem, show Tryd.f16.results.toList = [.tmp 2] from rfl, reduceIte] <;> rfl)); rotate_left 1; (focus (first | rfl | skip)); all_goals try with_reducible rfl)
    all_goals first | (refine Weak.cut' rfl rfl ?_; (first | (simp only [go_sem, reduceIte] <;> (try and_intros) <;> first | rfl | omega | grind [orI]))) | (refine ⟨?_, ?_⟩; rotate_left 1; (focus (refine Weak.cut' rfl rfl ?_; (first | (simp only [go_sem, reduceIte] <;> (try and_intros) <;> first | rfl | omega | grind [orI])))); grind [orI]) | grind [orI]
  · repeat' (first | refine WK.seq ?_ | refine WK.reg ?_ | refine IL.nil ?_ | refine WK.skip ?_ | refine WK.block ?_ | refine WK.exit_here ?_ | refine WK.e1 ?_ | refine WK.e2 ?_ | (with_reducible refine IL.wr ?_ ?_; focus exact cW) | refine IL.sg ttok ?_ | (refine WK.cn (fun h => ?_) (fun h => ?_); all_goals first | (simp only [reduceCtorEq] at h; done) | (simp only [hsA, hsD, hsE, ne_eq] at h; first | done | (exfalso; omega; done) | skip) | skip))
    all_goals try ((first | refine WK.ret ⟨.inr rfl, ?_⟩ | refine ⟨.inl rfl, ?_⟩ | refine ⟨.inl trivial, ?_⟩); refine Fin.o ?_ ?_ (h1 := by first | rfl | (simp only [go_sem, show Tryd.f16.results.toList = [.tmp 2] from rfl, reduceIte] <;> rfl)); rotate_left 1; (focus (first | rfl | skip)); all_goals try with_reducible rfl)
    rw [List.drop_length] at ho
    all_goals first | (refine Weak.cut' rfl rfl ?_; (first | (simp only [go_sem, reduceIte] <;> (try and_intros) <;> first | rfl | omega | grind [orI]))) | (refine ⟨?_, ?_⟩; rotate_left 1; (focus (refine Weak.cut' rfl rfl ?_; (first | (simp only [go_sem, reduceIte] <;> (try and_intros) <;> first | rfl | omega | grind [orI])))); grind [orI]) | grind [orI]
theorem or2 (a b : Int) : SCall Tryd.prog 16 [.tr 2 [.v (.int .i64 a), .v (.int .i64 b)]] (.v (.int .i64 (orI [a, b]))) [.tr 2 [.v (.int .i64 a), .v (.int .i64 b)]] := or_call [a, b] (by simp)
theorem or3 (a b c : Int) : SCall Tryd.prog 16 [.tr 3 [.v (.int .i64 a), .v (.int .i64 b), .v (.int .i64 c)]] (.v (.int .i64 (orI [a, b, c]))) [.tr 3 [.v (.int .i64 a), .v (.int .i64 b), .v (.int .i64 c)]] := or_call [a, b, c] (by simp)
abbrev idIV (r n : Int) : IV := .agg [.v (.int .u16 r), .v (.int .u32 n)]
theorem idCompare_call (r n r' n' : Int) : SCall Tryd.prog 10 [idIV r n, idIV r' n'] (.v (.int .i64 (orI [cmpI r r', cmpI n n']))) [idIV r n, idIV r' n'] := by
  refine SCall.of_body' (TT := TT) (fun _ => false) [false, false] ttok Tryd.func10 rfl (Nat.le_of_ble_eq_true rfl) rfl fun fx hfx => WK.top ?_
  simp only [impl, imp, argT, List.append_nil, List.map_nil, List.nil_append, show Tryd.f10.ntmps = 17 from rfl, Nat.zero_add, Nat.reduceAdd]
  repeat' (first | refine WK.seq ?_ | refine WK.reg ?_ | refine IL.nil ?_ | refine WK.drawnS (id := 1) mixed [] [4, 9, 10, 11] [0, 0, 0, 0, 0, 0, 0, 0, 0, 1, 2, 3, 4] [0, 0, 0, 0, 0, 1, 1, 1, 1, 1, 2, 3, 4] (by decide +kernel) ?_ | refine DW.nil ?_ | (with_reducible refine IL.wr ?_ ?_; focus exact cW) | (with_reducible refine DW.wr ?_ ?_; focus exact cW) | refine IL.sg ttok ?_ | refine DW.re ttok ?_ | refine DW.rm ttok ?_ | refine DW.bk ttok ?_ | refine DW.cS ttok ent16 [.bor] true ?_ (hS := by first | exact or2 _ _ | exact or3 _ _ _) | refine DW.cS ttok ent17 [.bor, .bor] true ?_ (hS := by exact cmp16 _ _) | refine DW.cS ttok ent18 [.bor, .bor] true ?_ (hS := by exact cmp32 _ _))
  all_goals try ((first | refine WK.ret ⟨.inr rfl, ?_⟩ | refine ⟨.inl rfl, ?_⟩ | refine ⟨.inl trivial, ?_⟩); refine Fin.o ?_ ?_ (h1 := by first | rfl | (simp only [go_sem, show Tryd.f10.results.toList = [.tmp 4] from rfl, reduceIte] <;> rfl)); rotate_left 1; (focus (first | rfl | skip)); all_goals try with_reducible rfl)
  all_goals first | (refine Weak.cut' rfl rfl ?_; exact cA) | (refine ⟨?_, ?_⟩; rotate_left 1; (focus (refine Weak.cut' rfl rfl ?_; exact cA)); grind) | grind
def takeI (next count : Int) : Int × Int := if count < 0 ∨ next < 1 then (0, 10) else if next > 268435457 ∨ count > 268435457 - next then (0, 20) else (next + count, 0)
theorem take_call (next count : Int) (h0 : 0 ≤ next) (h1 : next ≤ 4294967295) : SCall Tryd.prog 9 [.v (.int .u32 next), .v (.int .i64 count)] (.tup [.v (.int .u32 (takeI next count).1), .v (.int .i64 (takeI next count).2)]) [.v (.int .u32 next), .v (.int .i64 count)] := by
  refine SCall.of_body' (TT := TT) (fun _ => false) [false, false] ttok Tryd.func9 rfl (Nat.le_of_ble_eq_true rfl) rfl fun fx hfx => WK.top ?_
  simp only [impl, imp, argT, List.append_nil, List.map_nil, List.nil_append, show Tryd.f9.ntmps = 25 from rfl, Nat.zero_add, Nat.reduceAdd]
  repeat' (first | refine WK.seq ?_ | refine WK.reg ?_ | refine IL.nil ?_ | refine WK.skip ?_ | (with_reducible refine IL.wr ?_ ?_; focus exact cW) | refine IL.sg ttok ?_ | refine IL.nn ?_ | ((first | ((first | refine IL.ag (fun h => ?_) (fun h => ?_) | refine IL.ap (fun h => ?_) (fun h => ?_)); (fail_if_success (focus (simp only [reduceCtorEq] at h)))) | refine WK.cn (fun h => ?_) (fun h => ?_)); all_goals first | (simp only [reduceCtorEq] at h; done) | (simp only [hsA, hsD, hsE, ne_eq] at h; first | done | (exfalso; omega; done) | skip) | skip))
  all_goals try ((first | refine WK.ret ⟨.inr rfl, ?_⟩ | refine ⟨.inl rfl, ?_⟩ | refine ⟨.inl trivial, ?_⟩); refine Fin.o ?_ ?_ (h1 := by first | rfl | (simp only [go_sem, show Tryd.f9.results.toList = [.tmp 4, .tmp 5] from rfl, reduceIte] <;> rfl)); rotate_left 1; (focus (first | rfl | skip)); all_goals try with_reducible rfl)
  all_goals first | (refine Weak.cut' rfl rfl ?_; (first | (simp only [go_sem, reduceIte] <;> (try and_intros) <;> first | rfl | omega | grind [takeI]))) | (refine ⟨?_, ?_⟩; rotate_left 1; (focus (refine Weak.cut' rfl rfl ?_; (first | (simp only [go_sem, reduceIte] <;> (try and_intros) <;> first | rfl | omega | grind [takeI])))); grind [takeI]) | grind [takeI]
theorem anchor01 : SCall Tryd.prog 4 [] (.v (.bool true)) [] := by
  refine SCall.of_body' (TT := TT) (fun _ => false) [] ttok Tryd.func4 rfl (Nat.le_of_ble_eq_true rfl) rfl fun fx hfx => WK.top ?_
  simp only [impl, imp, argT, List.append_nil, List.map_nil, List.nil_append, show Tryd.f4.ntmps = 19 from rfl, Nat.zero_add, Nat.reduceAdd]
  repeat' (first | refine WK.seq ?_ | refine WK.reg ?_ | refine IL.nil ?_ | (with_reducible refine IL.wr ?_ ?_; focus exact cW) | refine IL.sg ttok ?_ | refine IL.nn ?_ | refine IL.cS ttok ent9 [.bor, .bor] true ?_ (hS := by refine take_call _ _ ?_ ?_ <;> exact cO) | refine IL.cS ttok ent10 [.bor, .bor] true ?_ (hS := by exact idCompare_call _ _ _ _) | (((first | refine IL.ag (fun h => ?_) (fun h => ?_) | refine IL.ap (fun h => ?_) (fun h => ?_)); (fail_if_success (focus (simp only [reduceCtorEq] at h)))); all_goals first | (simp only [reduceCtorEq] at h; done) | (simp only [hsA, hsD, hsE, ne_eq] at h; first | done | (exfalso; omega; done) | skip) | skip))
  all_goals try ((first | refine WK.ret ⟨.inr rfl, ?_⟩ | refine ⟨.inl rfl, ?_⟩ | refine ⟨.inl trivial, ?_⟩); refine Fin.o ?_ ?_ (h1 := by first | rfl | (simp only [go_sem, show Tryd.f4.results.toList = [.tmp 0] from rfl, reduceIte] <;> rfl)); rotate_left 1; (focus (first | rfl | skip)); all_goals try with_reducible rfl)
  all_goals first | (refine Weak.cut' rfl rfl ?_; (first | (simp only [go_sem, reduceIte] <;> (try and_intros) <;> first | rfl | omega | grind [takeI, cmpI, orI]))) | (refine ⟨?_, ?_⟩; rotate_left 1; (focus (refine Weak.cut' rfl rfl ?_; (first | (simp only [go_sem, reduceIte] <;> (try and_intros) <;> first | rfl | omega | grind [takeI, cmpI, orI])))); grind [takeI, cmpI, orI]) | grind [takeI, cmpI, orI]
end Go.Proofs.YtgomhljgjmjgfaaDoor
/- Texts of IDs: the document's Number, Read; Show. -/
namespace Go.Proofs.YtgomhljgjmjgfaaDoor
open Go Go.Lift
set_option maxHeartbeats 4000000
set_option linter.unusedSimpArgs false
set_option linter.unusedVariables false
attribute [local irreducible] WK IL IP IG IW DW

theorem c_isD {c : UInt8} : isD c ↔ ¬ ((c.toNat : Int) < 48) ∧ ¬ ((c.toNat : Int) > 57) := by unfold isD; omega
theorem numS_bad {most : Nat} {l : List UInt8} (h : (l.length < 1 ∨ 15 < l.length ∨ (1 < l.length ∧ l.getD 0 0 = 48)) ∨ ¬ (∀ c ∈ l, isD c)) (hm : most ≤ 4294967295) : numS most l = none ∧ refV l = 0 := by
  refine ⟨?_, by unfold refV; rw [if_pos h]⟩
  by_cases hl : 15 < l.length
  · exact long_num most hm l hl
  unfold numS
  rw [if_neg]
  rintro ⟨⟨h1, h2, h3⟩, _⟩
  rcases h with (h | h | ⟨h, h'⟩) | h
  · exact h1 (List.eq_nil_of_length_eq_zero (by omega))
  · exact hl h
  · exact h3 h h'
  · exact h h2
theorem refNum_call (l : List UInt8) (most : Nat) (hm : most ≤ 4294967295) (hl : l.length ≤ 1000000) :
    SCall Tryd.prog 15 [.v (.string ⟨l.toArray⟩), .v (.int .u64 most)] (.tup [.v (.int .u64 (refV l)), .v (.bool (numS most l).isSome)]) [.v (.string ⟨l.toArray⟩), .v (.int .u64 most)] := by
  by_cases hsh : l.length < 1 ∨ 15 < l.length ∨ (1 < l.length ∧ l.getD 0 0 = 48)
  · obtain ⟨h1, h2⟩ := numS_bad (most := most) (.inl hsh) hm
    rw [h1, h2]
    rcases hsh with h | h | ⟨h, h0⟩
    · refine SCall.of_body' (TT := TT) (fun _ => false) [false, false] ttok Tryd.func15 rfl (Nat.le_of_ble_eq_true rfl) rfl fun fx hfx => WK.top ?_
      simp only [impl, imp, argT, List.append_nil, List.map_nil, List.nil_append, show Tryd.f15.ntmps = 54 from rfl, Nat.zero_add, Nat.reduceAdd]
      repeat' (first | refine WK.seq ?_ | refine WK.reg ?_ | refine IL.nil ?_ | refine WK.skip ?_ | refine WK.block ?_ | refine WK.exit_here ?_ | refine WK.e1 ?_ | refine WK.e2 ?_ | (with_reducible refine IL.wr ?_ ?_; focus exact cW) | refine IL.sg ttok ?_ | refine IL.nn ?_ | ((first | ((first | refine IL.ag (fun h => ?_) (fun h => ?_) | refine IL.ap (fun h => ?_) (fun h => ?_)); (fail_if_success (focus (simp only [reduceCtorEq] at h)))) | refine WK.cn (fun h => ?_) (fun h => ?_)); all_goals first | (simp only [reduceCtorEq] at h; done) | (simp only [hsA, hsD, hsE, ne_eq] at h; first | done | (exfalso; omega; done) | skip) | skip))
      all_goals try ((first | refine WK.ret ⟨.inr rfl, ?_⟩ | refine ⟨.inl rfl, ?_⟩ | refine ⟨.inl trivial, ?_⟩); refine Fin.o ?_ ?_ (h1 := by first | rfl | (simp only [go_sem, show Tryd.f15.results.toList = [.tmp 4, .tmp 5] from rfl, reduceIte] <;> rfl)); rotate_left 1; (focus (first | rfl | skip)); all_goals try with_reducible rfl)
      all_goals rfl
    · refine SCall.of_body' (TT := TT) (fun _ => false) [false, false] ttok Tryd.func15 rfl (Nat.le_of_ble_eq_true rfl) rfl fun fx hfx => WK.top ?_
      simp only [impl, imp, argT, List.append_nil, List.map_nil, List.nil_append, show Tryd.f15.ntmps = 54 from rfl, Nat.zero_add, Nat.reduceAdd]
      repeat' (first | refine WK.seq ?_ | refine WK.reg ?_ | refine IL.nil ?_ | refine WK.skip ?_ | refine WK.block ?_ | refine WK.exit_here ?_ | refine WK.e1 ?_ | refine WK.e2 ?_ | (with_reducible refine IL.wr ?_ ?_; focus exact cW) | refine IL.sg ttok ?_ | refine IL.nn ?_ | ((first | ((first | refine IL.ag (fun h => ?_) (fun h => ?_) | refine IL.ap (fun h => ?_) (fun h => ?_)); (fail_if_success (focus (simp only [reduceCtorEq] at h)))) | refine WK.cn (fun h => ?_) (fun h => ?_)); all_goals first | (simp only [reduceCtorEq] at h; done) | (simp only [hsA, hsD, hsE, ne_eq] at h; first | done | (exfalso; omega; done) | skip) | skip))
      all_goals try ((first | refine WK.ret ⟨.inr rfl, ?_⟩ | refine ⟨.inl rfl, ?_⟩ | refine ⟨.inl trivial, ?_⟩); refine Fin.o ?_ ?_ (h1 := by first | rfl | (simp only [go_sem, show Tryd.f15.results.toList = [.tmp 4, .tmp 5] from rfl, reduceIte] <;> rfl)); rotate_left 1; (focus (first | rfl | skip)); all_goals try with_reducible rfl)
      all_goals rfl
    · have hb2 : ((l.getD 0 0).toNat : Int) = 48 := by rw [h0]; rfl
      refine SCall.of_body' (TT := TT) (fun _ => false) [false, false] ttok Tryd.func15 rfl (Nat.le_of_ble_eq_true rfl) rfl fun fx hfx => WK.top ?_
      simp only [impl, imp, argT, List.append_nil, List.map_nil, List.nil_append, show Tryd.f15.ntmps = 54 from rfl, Nat.zero_add, Nat.reduceAdd]
      repeat' (first | refine WK.seq ?_ | refine WK.reg ?_ | refine IL.nil ?_ | refine WK.skip ?_ | refine WK.block ?_ | refine WK.exit_here ?_ | refine WK.e1 ?_ | refine WK.e2 ?_ | (with_reducible refine IL.wr ?_ ?_; focus exact cW) | refine IL.sg ttok ?_ | refine IL.nn ?_ | ((first | ((first | refine IL.ag (fun h => ?_) (fun h => ?_) | refine IL.ap (fun h => ?_) (fun h => ?_)); (fail_if_success (focus (simp only [reduceCtorEq] at h)))) | refine WK.cn (fun h => ?_) (fun h => ?_)); all_goals first | (simp only [reduceCtorEq] at h; done) | (simp only [hsA, hsD, hsE, ne_eq] at h; first | done | (exfalso; omega; done) | skip) | skip))
      all_goals try ((first | refine WK.ret ⟨.inr rfl, ?_⟩ | refine ⟨.inl rfl, ?_⟩ | refine ⟨.inl trivial, ?_⟩); refine Fin.o ?_ ?_ (h1 := by first | rfl | (simp only [go_sem, show Tryd.f15.results.toList = [.tmp 4, .tmp 5] from rfl, reduceIte] <;> rfl)); rotate_left 1; (focus (first | rfl | skip)); all_goals try with_reducible rfl)
      all_goals first | rfl | (exact absurd hb2 ‹_›)
  have h1 : 1 ≤ l.length := by omega
  have h15 : l.length ≤ 15 := by omega
  have h0 : 1 < l.length → ¬ ((l.getD 0 0).toNat : Int) = 48 := fun h hh => hsh (.inr (.inr ⟨h, UInt8.toNat_inj.1 (by rw [show (48 : UInt8).toNat = 48 from rfl]; omega)⟩))
  refine SCall.of_body' (TT := TT) (fun _ => false) [false, false] ttok Tryd.func15 rfl (Nat.le_of_ble_eq_true rfl) rfl fun fx hfx => WK.top ?_
  simp only [impl, imp, argT, List.append_nil, List.map_nil, List.nil_append, show Tryd.f15.ntmps = 54 from rfl, Nat.zero_add, Nat.reduceAdd]
  repeat' (first | refine WK.seq ?_ | refine WK.reg ?_ | refine IL.nil ?_ | refine WK.skip ?_ | refine WK.block ?_ | refine WK.exit_here ?_ | refine WK.e1 ?_ | refine WK.e2 ?_ | (with_reducible refine IL.wr ?_ ?_; focus exact cW) | refine IL.sg ttok ?_ | refine IL.nn ?_ | ((first | ((first | refine IL.ag (fun h => ?_) (fun h => ?_) | refine IL.ap (fun h => ?_) (fun h => ?_)); (fail_if_success (focus (simp only [reduceCtorEq] at h)))) | refine WK.cn (fun h => ?_) (fun h => ?_)); all_goals first | (simp only [reduceCtorEq] at h; done) | (simp only [hsA, hsD, hsE, ne_eq] at h; first | done | (exfalso; omega; done) | skip) | skip))
  all_goals
    refine WK.whileS (α := Nat) (fun k => l.length - k) (fun k => k ≤ l.length ∧ ∀ c ∈ l.take k, isD c) (fun k => ⟨54, [(0, .v (.string ⟨l.toArray⟩)), (1, .v (.int .u64 most)), (6, .v (.int .u64 (val 0 (l.take k) : Nat))), (7, .v (.int .i64 k))], []⟩) 0 ⟨⟨Nat.zero_le _, by simp⟩, ?_⟩ ?_
    · rw [List.take_zero, val_nil]
      (refine Weak.renS [] hfx rfl ?_ ?_ rfl <;> (simp only [go_sem, reduceIte, exists_eq_left', exists_eq_left, Blk.mk.injEq] <;> (try and_intros) <;> first | rfl | omega))
    rintro k ⟨hk, hd⟩
    by_cases hkl : k < l.length
    · have hx : l[k]? = some l[k] := List.getElem?_eq_getElem hkl
      have hg : l.getD k 0 = l[k] := by simp [List.getD_eq_getElem?_getD, hx]
      have htk : l.take (k + 1) = l.take k ++ [l[k]] := by rw [List.take_add_one, hx]; rfl
      have hv := val_lt (l.take k) 0 0 hd (by decide)
      have hv2 : val 0 (l.take k) < 10 ^ 15 := Nat.lt_of_lt_of_le hv (Nat.pow_le_pow_right (by decide) (by rw [List.length_take]; omega))
      rw [show (10 : Nat) ^ 15 = 1000000000000000 by decide] at hv2
      by_cases hc : isD l[k]
      · have hc2 := c_isD.1 hc
        rw [← hg] at hc2
        have hc3 : 48 ≤ (l.getD k 0).toNat ∧ (l.getD k 0).toNat ≤ 57 := by rw [hg]; exact hc
        have hvs : val 0 (l.take (k + 1)) = val 0 (l.take k) * 10 + ((l.getD k 0).toNat - 48) := by rw [htk, val_snoc, hg]
        generalize hV : val 0 (l.take k) = V at *
        generalize hC : (l.getD k 0).toNat = C at *
        have e1 : IntKind.u64.wrap (10 * (V : Int)) = 10 * (V : Int) := wrap_u64 (by omega) (by omega)
        have e2 : IntKind.u8.wrap ((C : Int) - 48) = (C : Int) - 48 := wrap_u8 (by omega) (by omega)
        have e3 : IntKind.u64.wrap ((C : Int) - 48) = (C : Int) - 48 := wrap_u64 (by omega) (by omega)
        have e4 : IntKind.u64.wrap (10 * (V : Int) + ((C : Int) - 48)) = ((V * 10 + (C - 48) : Nat) : Int) := by rw [wrap_u64 (by omega) (by omega)]; omega
        have FX := And.intro hC (And.intro e1 (And.intro e2 (And.intro e3 e4)))
        repeat' (first | refine WK.seq ?_ | refine WK.reg ?_ | refine IL.nil ?_ | refine WK.skip ?_ | refine WK.block ?_ | refine WK.exit_here ?_ | refine WK.e1 ?_ | refine WK.e2 ?_ | (with_reducible refine IL.wr ?_ ?_; focus exact cW) | refine IL.sgF ttok ?_ | refine IL.nn ?_ | ((first | ((first | refine IL.ag (fun h => ?_) (fun h => ?_) | refine IL.ap (fun h => ?_) (fun h => ?_)); (fail_if_success (focus (simp only [reduceCtorEq] at h)))) | refine WK.cn (fun h => ?_) (fun h => ?_)); all_goals first | (simp only [reduceCtorEq] at h; done) | (simp only [hsA, hsD, hsE, ne_eq] at h; first | done | (exfalso; omega; done) | skip) | skip))
        all_goals try first | (exact absurd ‹_› hc2.1) | (exact absurd ‹_› hc2.2)
        refine ⟨k + 1, by omega, ⟨by omega, fun c hc4 => ?_⟩, ?_⟩
        · rw [htk] at hc4
          rcases List.mem_append.1 hc4 with h | h
          · exact hd c h
          · rw [List.mem_singleton.1 h]; exact hc
        · rw [hvs]
          (refine Weak.renS [] hfx rfl ?_ ?_ rfl <;> (simp only [go_sem, reduceIte, exists_eq_left', exists_eq_left, Blk.mk.injEq] <;> (try and_intros) <;> first | rfl | omega))
      · obtain ⟨h1, h2⟩ := numS_bad (most := most) (l := l) (.inr fun h => hc (h _ (List.getElem_mem hkl))) hm
        rw [h1, h2]
        have hc2 : ¬ (¬ (((l.getD k 0).toNat : Int) < 48) ∧ ¬ (((l.getD k 0).toNat : Int) > 57)) := by rw [hg]; exact fun h => hc (c_isD.2 h)
        repeat' (first | refine WK.seq ?_ | refine WK.reg ?_ | refine IL.nil ?_ | refine WK.skip ?_ | refine WK.block ?_ | refine WK.exit_here ?_ | refine WK.e1 ?_ | refine WK.e2 ?_ | (with_reducible refine IL.wr ?_ ?_; focus exact cW) | refine IL.sg ttok ?_ | refine IL.nn ?_ | ((first | ((first | refine IL.ag (fun h => ?_) (fun h => ?_) | refine IL.ap (fun h => ?_) (fun h => ?_)); (fail_if_success (focus (simp only [reduceCtorEq] at h)))) | refine WK.cn (fun h => ?_) (fun h => ?_)); all_goals first | (simp only [reduceCtorEq] at h; done) | (simp only [hsA, hsD, hsE, ne_eq] at h; first | done | (exfalso; omega; done) | skip) | skip))
        all_goals try ((first | refine WK.ret ⟨.inr rfl, ?_⟩ | refine ⟨.inl rfl, ?_⟩ | refine ⟨.inl trivial, ?_⟩); refine Fin.o ?_ ?_ (h1 := by first | rfl | (simp only [go_sem, show Tryd.f15.results.toList = [.tmp 4, .tmp 5] from rfl, reduceIte] <;> rfl)); rotate_left 1; (focus (first | rfl | skip)); all_goals try with_reducible rfl)
        all_goals first | rfl | (exfalso; omega)
    · obtain rfl : k = l.length := by omega
      rw [List.take_length] at hd ⊢
      have hv : refV l = val 0 l := by
        unfold refV
        rw [if_neg]
        rintro (h | h)
        · exact hsh h
        · exact h hd
      have hcn : canon l := ⟨fun h => by rw [h] at h1; simp at h1, hd, fun h hh => hsh (.inr (.inr ⟨h, hh⟩))⟩
      have hn : (numS most l).isSome = decide (((val 0 l : Nat) : Int) ≤ (most : Int)) := by
        unfold numS
        by_cases hle : val 0 l ≤ most
        · rw [if_pos ⟨hcn, hle⟩, decide_eq_true (by omega)]; rfl
        · rw [if_neg (fun h => hle h.2), decide_eq_false (by omega)]; rfl
      rw [hv, hn]
      repeat' (first | refine WK.seq ?_ | refine WK.reg ?_ | refine IL.nil ?_ | refine WK.skip ?_ | refine WK.block ?_ | refine WK.exit_here ?_ | refine WK.e1 ?_ | refine WK.e2 ?_ | (with_reducible refine IL.wr ?_ ?_; focus exact cW) | refine IL.sg ttok ?_ | refine IL.nn ?_ | ((first | ((first | refine IL.ag (fun h => ?_) (fun h => ?_) | refine IL.ap (fun h => ?_) (fun h => ?_)); (fail_if_success (focus (simp only [reduceCtorEq] at h)))) | refine WK.cn (fun h => ?_) (fun h => ?_)); all_goals first | (simp only [reduceCtorEq] at h; done) | (simp only [hsA, hsD, hsE, ne_eq] at h; first | done | (exfalso; omega; done) | skip) | skip))
      all_goals try ((first | refine WK.ret ⟨.inr rfl, ?_⟩ | refine ⟨.inl rfl, ?_⟩ | refine ⟨.inl trivial, ?_⟩); refine Fin.o ?_ ?_ (h1 := by first | rfl | (simp only [go_sem, show Tryd.f15.results.toList = [.tmp 4, .tmp 5] from rfl, reduceIte] <;> rfl)); rotate_left 1; (focus (first | rfl | skip)); all_goals try with_reducible rfl)
      all_goals rfl
end Go.Proofs.YtgomhljgjmjgfaaDoor
/- Texts of IDs: Show, Read. -/
namespace Go.Proofs.YtgomhljgjmjgfaaDoor
open Go Go.Lift
set_option maxHeartbeats 4000000
set_option linter.unusedSimpArgs false
set_option linter.unusedVariables false
attribute [local irreducible] WK IL IP IG IW DW

def showID (r n : Nat) : List UInt8 := Lib.decDigits r ++ 58 :: Lib.decDigits n
theorem show_app (r n : Nat) : showID r n = Lib.decDigits r ++ [58] ++ Lib.decDigits n := by simp [showID]
theorem show_call (ev : EV) (r n : Nat) (hr : r ≤ 65535) (hn : n ≤ 4294967295) :
    SCallG ev.tab Tryd.prog 5 [.agg [.v (.int .u16 r), .v (.int .u32 n)]] (.v (.string ⟨(showID r n).toArray⟩)) [.agg [.v (.int .u16 r), .v (.int .u32 n)]] := by
  have hf1 := fu_call ev r (by omega)
  have hf2 := fu_call ev n (by omega)
  have h1 := digits_le r (by omega)
  have h2 := digits_le n (by omega)
  have e1 : IntKind.u64.wrap (r : Int) = (r : Int) := wrap_u64 (by omega) (by omega)
  have e2 : IntKind.u64.wrap (n : Int) = (n : Int) := wrap_u64 (by omega) (by omega)
  rw [show_app]
  generalize Lib.decDigits r = la at *
  generalize Lib.decDigits n = lb at *
  have a1 := ba_append la [58]
  have a2 := ba_append (la ++ [58]) lb
  have s1 : la.length + (0 + 1) ≤ 9223372036854775807 := by omega
  have s2 : la.length + (0 + 1) + lb.length ≤ 9223372036854775807 := by omega
  refine SCallG.of_body' (G := ev.tab) (TT := TT) (fun _ => false) [false] ttok Tryd.func5 rfl (Nat.le_of_ble_eq_true rfl) rfl fun fx hfx hgf => WK.top ?_
  simp only [impl, imp, argT, List.append_nil, List.map_nil, List.nil_append, show Tryd.f5.ntmps = 13 from rfl, Nat.zero_add, Nat.reduceAdd]
  repeat' (first | refine WK.seq ?_ | refine WK.reg ?_ | refine IL.nil ?_ | refine WK.drawnS (id := 1) mixed [] [3, 8] [0, 0, 0, 0, 1, 0, 0, 0, 1, 2, 2] [0, 0, 0, 0, 2, 1, 1, 1, 1, 2, 2] (by decide +kernel) ?_ | refine DW.nil ?_ | (with_reducible refine IL.wr ?_ ?_; focus exact cW) | (with_reducible refine DW.wr ?_ ?_; focus exact cW) | refine IL.sg ttok ?_ (h := by intro K hK; simp only [go_sem, reduceIte, e1, e2, s1, s2, a1, a2, ba_size, List.length_cons, List.length_nil, List.length_append]; exact cK hK) | refine DW.re ttok ?_ (h := by intro K hK; simp only [go_sem, reduceIte, e1, e2, s1, s2, a1, a2, ba_size, List.length_cons, List.length_nil, List.length_append]; exact cK hK) | refine DW.rm ttok ?_ (h := by intro K hK; simp only [go_sem, reduceIte, e1, e2, s1, s2, a1, a2, ba_size, List.length_cons, List.length_nil, List.length_append]; exact cK hK) | refine DW.cSG hgf ttok ent11 [.bor, .bor] true ?_ (hA := by first | rfl | (simp only [go_sem, reduceIte, e1, e2, s1, s2, a1, a2, ba_size, List.length_cons, List.length_nil, List.length_append] <;> rfl)) (hS := by first | exact hf1 | exact hf2) (hi' := by first | rfl | (simp only [go_sem, reduceIte, e1, e2, s1, s2, a1, a2, ba_size, List.length_cons, List.length_nil, List.length_append] <;> rfl)) (hK := by intro K hK; simp only [go_sem, reduceIte, e1, e2, s1, s2, a1, a2, ba_size, List.length_cons, List.length_nil, List.length_append]; exact cK hK))
  all_goals try ((first | refine WK.ret ⟨.inr rfl, ?_⟩ | refine ⟨.inl rfl, ?_⟩ | refine ⟨.inl trivial, ?_⟩); refine Fin.o ?_ ?_ (h1 := by first | rfl | (simp only [go_sem, show Tryd.f5.results.toList = [.tmp 2] from rfl, reduceIte] <;> rfl)); rotate_left 1; (focus (first | rfl | skip)); all_goals try with_reducible rfl)
  all_goals skip
theorem refShow_call (r n : Nat) (hr : r ≤ 65535) (hn : n ≤ 4294967295) :
    SCall Tryd.prog 7 [.agg [.v (.int .u16 r), .v (.int .u32 n)]] (.v (.string ⟨(showID r n).toArray⟩)) [.agg [.v (.int .u16 r), .v (.int .u32 n)]] := by
  have hd1 := digits_call r (by omega)
  have hd2 := digits_call n (by omega)
  have h1 := digits_le r (by omega)
  have h2 := digits_le n (by omega)
  have e1 : IntKind.u64.wrap (r : Int) = (r : Int) := wrap_u64 (by omega) (by omega)
  have e2 : IntKind.u64.wrap (n : Int) = (n : Int) := wrap_u64 (by omega) (by omega)
  rw [show_app]
  generalize Lib.decDigits r = la at *
  generalize Lib.decDigits n = lb at *
  have a1 := ba_append la [58]
  have a2 := ba_append (la ++ [58]) lb
  have s1 : la.length + (0 + 1) ≤ 9223372036854775807 := by omega
  have s2 : la.length + (0 + 1) + lb.length ≤ 9223372036854775807 := by omega
  refine SCall.of_body' (TT := TT) (fun _ => false) [false] ttok Tryd.func7 rfl (Nat.le_of_ble_eq_true rfl) rfl fun fx hfx => WK.top ?_
  simp only [impl, imp, argT, List.append_nil, List.map_nil, List.nil_append, show Tryd.f7.ntmps = 13 from rfl, Nat.zero_add, Nat.reduceAdd]
  repeat' (first | refine WK.seq ?_ | refine WK.reg ?_ | refine IL.nil ?_ | refine WK.drawnS (id := 1) mixed [] [3, 8] [0, 0, 0, 0, 1, 0, 0, 0, 1, 2, 2] [0, 0, 0, 0, 2, 1, 1, 1, 1, 2, 2] (by decide +kernel) ?_ | refine DW.nil ?_ | (with_reducible refine IL.wr ?_ ?_; focus exact cW) | (with_reducible refine DW.wr ?_ ?_; focus exact cW) | refine IL.sg ttok ?_ (h := by intro K hK; simp only [go_sem, reduceIte, e1, e2, s1, s2, a1, a2, ba_size, List.length_cons, List.length_nil, List.length_append]; exact cK hK) | refine DW.re ttok ?_ (h := by intro K hK; simp only [go_sem, reduceIte, e1, e2, s1, s2, a1, a2, ba_size, List.length_cons, List.length_nil, List.length_append]; exact cK hK) | refine DW.rm ttok ?_ (h := by intro K hK; simp only [go_sem, reduceIte, e1, e2, s1, s2, a1, a2, ba_size, List.length_cons, List.length_nil, List.length_append]; exact cK hK) | refine DW.cS ttok ent14 [.bor] true ?_ (hA := by first | rfl | (simp only [go_sem, reduceIte, e1, e2, s1, s2, a1, a2, ba_size, List.length_cons, List.length_nil, List.length_append] <;> rfl)) (hS := by first | exact hd1 | exact hd2) (hi' := by first | rfl | (simp only [go_sem, reduceIte, e1, e2, s1, s2, a1, a2, ba_size, List.length_cons, List.length_nil, List.length_append] <;> rfl)) (hK := by intro K hK; simp only [go_sem, reduceIte, e1, e2, s1, s2, a1, a2, ba_size, List.length_cons, List.length_nil, List.length_append]; exact cK hK))
  all_goals try ((first | refine WK.ret ⟨.inr rfl, ?_⟩ | refine ⟨.inl rfl, ?_⟩ | refine ⟨.inl trivial, ?_⟩); refine Fin.o ?_ ?_ (h1 := by first | rfl | (simp only [go_sem, show Tryd.f7.results.toList = [.tmp 2] from rfl, reduceIte] <;> rfl)); rotate_left 1; (focus (first | rfl | skip)); all_goals try with_reducible rfl)
  all_goals skip
def colon : List UInt8 → Option (List UInt8 × List UInt8)
  | [] => none
  | c :: t => if c = 58 then some ([], t) else (colon t).map fun x => (c :: x.1, x.2)
theorem colon_cut : ∀ {p q : List UInt8}, (58 : UInt8) ∉ p → colon (p ++ 58 :: q) = some (p, q)
  | [], q, _ => by rw [List.nil_append, colon, if_pos rfl]
  | c :: p, q, h => by
    simp only [List.mem_cons, not_or] at h
    rw [List.cons_append, colon, if_neg (fun e => h.1 e.symm), colon_cut h.2]; rfl
theorem colon_none : ∀ {s : List UInt8}, (58 : UInt8) ∉ s → colon s = none
  | [], _ => rfl
  | c :: s, h => by
    simp only [List.mem_cons, not_or] at h
    rw [colon, if_neg (fun e => h.1 e.symm), colon_none h.2]; rfl
def both : Option Nat → Option Nat → Option (Nat × Nat)
  | some a, some b => some (a, b)
  | _, _ => none
theorem both_n (o : Option Nat) : both none o = none := by cases o <;> rfl
theorem both_sn (a : Nat) : both (some a) none = none := rfl
noncomputable def readI (s : List UInt8) : Option (Nat × Nat) :=
  match colon s with
  | some (p, q) => both (numS 65535 p) (numS 4294967295 q)
  | none => none
theorem readI_cut {s p q : List UInt8} (hs : s = p ++ 58 :: q) (hp : (58 : UInt8) ∉ p) : readI s = both (numS 65535 p) (numS 4294967295 q) := by
  unfold readI
  rw [hs, colon_cut hp]
theorem readI_none {s : List UInt8} (hs : (58 : UInt8) ∉ s) : readI s = none := by
  unfold readI
  rw [colon_none hs]
theorem dig_no (u : Nat) : (58 : UInt8) ∉ Lib.decDigits u := fun h => by
  have := (dec_canon u).2.1 _ h
  unfold isD at this
  have e : (58 : UInt8).toNat = 58 := rfl
  omega
theorem readI_show (r n : Nat) (hr : r ≤ 65535) (hn : n ≤ 4294967295) : readI (showID r n) = some (r, n) := by
  rw [readI_cut (show showID r n = Lib.decDigits r ++ 58 :: Lib.decDigits n from rfl) (dig_no r), numS_dec hr, numS_dec hn]; rfl
theorem numS_nil (m : Nat) : numS m [] = none := by
  unfold numS
  rw [if_neg]
  rintro ⟨⟨h, _⟩, _⟩
  exact h rfl
def codeRes : Option (Nat × Nat) → IV
  | some x => .tup [.agg [.v (.int .u16 x.1), .v (.int .u32 x.2)], .v (.int .i64 0)]
  | none => .tup [.agg [.v (.int .u16 0), .v (.int .u32 0)], .v (.int .i64 11)]
def refRes (a b : Int) : Option (Nat × Nat) → IV
  | some x => .tup [.agg [.v (.int .u16 x.1), .v (.int .u32 x.2)], .v (.bool true)]
  | none => .tup [.agg [.v (.int .u16 a), .v (.int .u32 b)], .v (.bool false)]
abbrev idR (r n : Int) : IV := .agg [.v (.int .u16 r), .v (.int .u32 n)]
theorem read_call (ev : EV) (he2 : isE ev.a) (he3 : isE ev.b) (s : List UInt8) (hs : s.length ≤ 1000000) :
    SCallG ev.tab Tryd.prog 6 [.v (.string ⟨s.toArray⟩)] (codeRes (readI s)) [.v (.string ⟨s.toArray⟩)] := by
  rcases cut_colon s with ⟨hi, hno⟩ | ⟨p, q, ht, hno, hi⟩
  · have hct := cut_none s hi
    have hn1 := number_call ev he2 he3 s 65535 (by decide) hs
    have hn2 := number_call ev he2 he3 [] 4294967295 (by decide) (by simp)
    rw [numS_nil, show ((4294967295 : Nat) : Int) = 4294967295 from rfl] at hn2
    rw [show ((65535 : Nat) : Int) = 65535 from rfl] at hn1
    simp only [Option.isSome_none] at hn2
    rw [readI_none hno, codeRes]
    generalize (numS 65535 s).isSome = b1 at *
    cases b1
    · refine SCallG.of_body' (G := ev.tab) (TT := TT) (fun _ => false) [false] ttok Tryd.func6 rfl (Nat.le_of_ble_eq_true rfl) rfl fun fx hfx hgf => WK.top ?_
      simp only [impl, imp, argT, List.append_nil, List.map_nil, List.nil_append, show Tryd.f6.ntmps = 39 from rfl, Nat.zero_add, Nat.reduceAdd]
      repeat' (first | refine WK.seq ?_ | refine WK.reg ?_ | refine IL.nil ?_ | refine WK.skip ?_ | (with_reducible refine IL.wr ?_ ?_; focus exact cW) | refine IL.sg ttok ?_ | refine IL.nn ?_ | refine IL.cS ttok ent12 [.bor, .bor] true ?_ (hS := by exact hct) | refine IL.cSG hgf ttok ent13 [.bor, .bor] true ?_ (hS := by first | exact hn1 | exact hn2) | ((first | ((first | refine IL.ag (fun h => ?_) (fun h => ?_) | refine IL.ap (fun h => ?_) (fun h => ?_)); (fail_if_success (focus (simp only [reduceCtorEq] at h)))) | refine WK.cn (fun h => ?_) (fun h => ?_)); all_goals first | (simp only [reduceCtorEq] at h; done) | (simp only [hsA, hsD, hsE, ne_eq] at h; first | done | (exfalso; omega; done) | skip) | skip))
      all_goals try ((first | refine WK.ret ⟨.inr rfl, ?_⟩ | refine ⟨.inl rfl, ?_⟩ | refine ⟨.inl trivial, ?_⟩); refine Fin.o ?_ ?_ (h1 := by first | rfl | (simp only [go_sem, show Tryd.f6.results.toList = [.cell 2 25, .tmp 3] from rfl, reduceIte] <;> rfl)); rotate_left 1; (focus (first | rfl | skip)); all_goals try with_reducible rfl)
      all_goals first | rfl | skip
    · refine SCallG.of_body' (G := ev.tab) (TT := TT) (fun _ => false) [false] ttok Tryd.func6 rfl (Nat.le_of_ble_eq_true rfl) rfl fun fx hfx hgf => WK.top ?_
      simp only [impl, imp, argT, List.append_nil, List.map_nil, List.nil_append, show Tryd.f6.ntmps = 39 from rfl, Nat.zero_add, Nat.reduceAdd]
      repeat' (first | refine WK.seq ?_ | refine WK.reg ?_ | refine IL.nil ?_ | refine WK.skip ?_ | (with_reducible refine IL.wr ?_ ?_; focus exact cW) | refine IL.sg ttok ?_ | refine IL.nn ?_ | refine IL.cS ttok ent12 [.bor, .bor] true ?_ (hS := by exact hct) | refine IL.cSG hgf ttok ent13 [.bor, .bor] true ?_ (hS := by first | exact hn1 | exact hn2) | ((first | ((first | refine IL.ag (fun h => ?_) (fun h => ?_) | refine IL.ap (fun h => ?_) (fun h => ?_)); (fail_if_success (focus (simp only [reduceCtorEq] at h)))) | refine WK.cn (fun h => ?_) (fun h => ?_)); all_goals first | (simp only [reduceCtorEq] at h; done) | (simp only [hsA, hsD, hsE, ne_eq] at h; first | done | (exfalso; omega; done) | skip) | skip))
      all_goals try ((first | refine WK.ret ⟨.inr rfl, ?_⟩ | refine ⟨.inl rfl, ?_⟩ | refine ⟨.inl trivial, ?_⟩); refine Fin.o ?_ ?_ (h1 := by first | rfl | (simp only [go_sem, show Tryd.f6.results.toList = [.cell 2 25, .tmp 3] from rfl, reduceIte] <;> rfl)); rotate_left 1; (focus (first | rfl | skip)); all_goals try with_reducible rfl)
      all_goals first | rfl | skip
  · have hct := cut_some s p q ht hs hi
    have hlp : p.length ≤ 1000000 := by rw [ht] at hs; simp at hs; omega
    have hlq : q.length ≤ 1000000 := by rw [ht] at hs; simp at hs; omega
    have hn1 := number_call ev he2 he3 p 65535 (by decide) hlp
    have hn2 := number_call ev he2 he3 q 4294967295 (by decide) hlq
    rw [show ((4294967295 : Nat) : Int) = 4294967295 from rfl] at hn2
    rw [show ((65535 : Nat) : Int) = 65535 from rfl] at hn1
    rw [readI_cut ht hno]
    clear hi hno ht hs
    cases h1 : numS 65535 p with
    | none =>
      rw [both_n, codeRes]
      rw [h1] at hn1
      simp only [Option.isSome_none] at hn1
      generalize (numS 4294967295 q).isSome = b1 at *
      refine SCallG.of_body' (G := ev.tab) (TT := TT) (fun _ => false) [false] ttok Tryd.func6 rfl (Nat.le_of_ble_eq_true rfl) rfl fun fx hfx hgf => WK.top ?_
      simp only [impl, imp, argT, List.append_nil, List.map_nil, List.nil_append, show Tryd.f6.ntmps = 39 from rfl, Nat.zero_add, Nat.reduceAdd]
      repeat' (first | refine WK.seq ?_ | refine WK.reg ?_ | refine IL.nil ?_ | refine WK.skip ?_ | (with_reducible refine IL.wr ?_ ?_; focus exact cW) | refine IL.sg ttok ?_ | refine IL.nn ?_ | refine IL.cS ttok ent12 [.bor, .bor] true ?_ (hS := by exact hct) | refine IL.cSG hgf ttok ent13 [.bor, .bor] true ?_ (hS := by first | exact hn1 | exact hn2) | ((first | ((first | refine IL.ag (fun h => ?_) (fun h => ?_) | refine IL.ap (fun h => ?_) (fun h => ?_)); (fail_if_success (focus (simp only [reduceCtorEq] at h)))) | refine WK.cn (fun h => ?_) (fun h => ?_)); all_goals first | (simp only [reduceCtorEq] at h; done) | (simp only [hsA, hsD, hsE, ne_eq] at h; first | done | (exfalso; omega; done) | skip) | skip))
      all_goals try ((first | refine WK.ret ⟨.inr rfl, ?_⟩ | refine ⟨.inl rfl, ?_⟩ | refine ⟨.inl trivial, ?_⟩); refine Fin.o ?_ ?_ (h1 := by first | rfl | (simp only [go_sem, show Tryd.f6.results.toList = [.cell 2 25, .tmp 3] from rfl, reduceIte] <;> rfl)); rotate_left 1; (focus (first | rfl | skip)); all_goals try with_reducible rfl)
      all_goals first | rfl | skip
    | some a =>
      rw [h1] at hn1
      cases h2 : numS 4294967295 q with
      | none =>
        rw [both_sn, codeRes]
        rw [h2] at hn2
        simp only [Option.isSome_none, Option.isSome_some] at hn1 hn2
        refine SCallG.of_body' (G := ev.tab) (TT := TT) (fun _ => false) [false] ttok Tryd.func6 rfl (Nat.le_of_ble_eq_true rfl) rfl fun fx hfx hgf => WK.top ?_
        simp only [impl, imp, argT, List.append_nil, List.map_nil, List.nil_append, show Tryd.f6.ntmps = 39 from rfl, Nat.zero_add, Nat.reduceAdd]
        repeat' (first | refine WK.seq ?_ | refine WK.reg ?_ | refine IL.nil ?_ | refine WK.skip ?_ | (with_reducible refine IL.wr ?_ ?_; focus exact cW) | refine IL.sg ttok ?_ | refine IL.nn ?_ | refine IL.cS ttok ent12 [.bor, .bor] true ?_ (hS := by exact hct) | refine IL.cSG hgf ttok ent13 [.bor, .bor] true ?_ (hS := by first | exact hn1 | exact hn2) | ((first | ((first | refine IL.ag (fun h => ?_) (fun h => ?_) | refine IL.ap (fun h => ?_) (fun h => ?_)); (fail_if_success (focus (simp only [reduceCtorEq] at h)))) | refine WK.cn (fun h => ?_) (fun h => ?_)); all_goals first | (simp only [reduceCtorEq] at h; done) | (simp only [hsA, hsD, hsE, ne_eq] at h; first | done | (exfalso; omega; done) | skip) | skip))
        all_goals try ((first | refine WK.ret ⟨.inr rfl, ?_⟩ | refine ⟨.inl rfl, ?_⟩ | refine ⟨.inl trivial, ?_⟩); refine Fin.o ?_ ?_ (h1 := by first | rfl | (simp only [go_sem, show Tryd.f6.results.toList = [.cell 2 25, .tmp 3] from rfl, reduceIte] <;> rfl)); rotate_left 1; (focus (first | rfl | skip)); all_goals try with_reducible rfl)
        all_goals first | rfl | skip
      | some b =>
        rw [both, codeRes]
        rw [h2] at hn2
        simp only [Option.isSome_some] at hn1 hn2
        obtain ⟨_, v1, w1⟩ := numS_refV (by decide) h1
        obtain ⟨_, v2, w2⟩ := numS_refV (by decide) h2
        rw [v1] at hn1
        rw [v2] at hn2
        have e1 : IntKind.u16.wrap (a : Int) = (a : Int) := wrap_u16 (by omega) (by omega)
        have e2 : IntKind.u32.wrap (b : Int) = (b : Int) := wrap_u32 (by omega) (by omega)
        refine SCallG.of_body' (G := ev.tab) (TT := TT) (fun _ => false) [false] ttok Tryd.func6 rfl (Nat.le_of_ble_eq_true rfl) rfl fun fx hfx hgf => WK.top ?_
        simp only [impl, imp, argT, List.append_nil, List.map_nil, List.nil_append, show Tryd.f6.ntmps = 39 from rfl, Nat.zero_add, Nat.reduceAdd]
        have FX := And.intro e1 e2
        repeat' (first | refine WK.seq ?_ | refine WK.reg ?_ | refine IL.nil ?_ | refine WK.skip ?_ | (with_reducible refine IL.wr ?_ ?_; focus exact cW) | refine IL.sgF ttok ?_ | refine IL.nn ?_ | refine IL.cSF ttok ent12 [.bor, .bor] true ?_ (hS := by exact hct) | refine IL.cSGF hgf ttok ent13 [.bor, .bor] true ?_ (hS := by first | exact hn1 | exact hn2) | ((first | ((first | refine IL.ag (fun h => ?_) (fun h => ?_) | refine IL.ap (fun h => ?_) (fun h => ?_)); (fail_if_success (focus (simp only [reduceCtorEq] at h)))) | refine WK.cn (fun h => ?_) (fun h => ?_)); all_goals first | (simp only [reduceCtorEq] at h; done) | (simp only [hsA, hsD, hsE, ne_eq] at h; first | done | (exfalso; omega; done) | skip) | skip))
        all_goals try ((first | refine WK.ret ⟨.inr rfl, ?_⟩ | refine ⟨.inl rfl, ?_⟩ | refine ⟨.inl trivial, ?_⟩); refine Fin.o ?_ ?_ (h1 := by first | rfl | (simp only [go_sem, show Tryd.f6.results.toList = [.cell 2 25, .tmp 3] from rfl, reduceIte] <;> rfl)); rotate_left 1; (focus (first | rfl | skip)); all_goals try with_reducible rfl)
        all_goals first | rfl | skip
end Go.Proofs.YtgomhljgjmjgfaaDoor
/- IdentShows: its function. -/
namespace Go.Proofs.YtgomhljgjmjgfaaDoor
open Go Go.Lift
set_option maxHeartbeats 4000000
set_option linter.unusedSimpArgs false
set_option linter.unusedVariables false
attribute [local irreducible] WK IL IP IG IW DW

theorem refRead_call (s : List UInt8) (hs : s.length ≤ 1000000) : ∃ x y : Int,
    SCall Tryd.prog 8 [.v (.string ⟨s.toArray⟩)] (refRes x y (readI s)) [.v (.string ⟨s.toArray⟩)] := by
  have hcol : (58 ∉ s ∧ ∀ k, k < s.length → ¬ ((s.getD k 0).toNat : Int) = 58) ∨ ∃ p q, s = p ++ 58 :: q ∧ (58 : UInt8) ∉ p ∧ p.length < s.length ∧ s.take p.length = p ∧ (s.drop (p.length + 1)).take (s.length - (p.length + 1)) = q ∧ (∀ k, k < p.length → ¬ ((s.getD k 0).toNat : Int) = 58) ∧ ((s.getD p.length 0).toNat : Int) = 58 := by
    have key : ∀ (l : List UInt8) (k : Nat), k < l.length → (58 : UInt8) ∉ l → ¬ ((l.getD k 0).toNat : Int) = 58 := fun l k hk hno h => by
      have e : l.getD k 0 = l[k] := by simp [List.getD_eq_getElem?_getD, List.getElem?_eq_getElem hk]
      rw [e] at h
      have : l[k] = 58 := UInt8.toNat_inj.1 (by rw [show (58 : UInt8).toNat = 58 from rfl]; omega)
      exact hno (this ▸ List.getElem_mem hk)
    rcases cut_colon s with ⟨_, hno⟩ | ⟨p, q, ht, hno, _⟩
    · exact .inl ⟨hno, fun k hk => key s k hk hno⟩
    · refine .inr ⟨p, q, ht, hno, by rw [ht]; simp, by rw [ht]; simp, ?_, fun k hk h => ?_, ?_⟩
      · have : s.drop (p.length + 1) = q := by rw [ht, List.drop_append]; simp
        rw [this, ht]; exact List.take_of_length_le (by simp; omega)
      · refine key p k hk hno ?_
        have e : s.getD k 0 = p.getD k 0 := by rw [ht]; simp [List.getD_eq_getElem?_getD, List.getElem?_append_left hk]
        rwa [e] at h
      · have e : s.getD p.length 0 = 58 := by rw [ht]; simp [List.getD_eq_getElem?_getD]
        rw [e]; rfl
  rcases hcol with ⟨hno, hk0⟩ | ⟨p, q, ht, hno, hlt, h1, h2, hk0, h58⟩
  · refine ⟨0, 0, ?_⟩
    rw [readI_none hno, refRes]
    refine SCall.of_body' (TT := TT) (fun _ => false) [false] ttok Tryd.func8 rfl (Nat.le_of_ble_eq_true rfl) rfl fun fx hfx => WK.top ?_
    simp only [impl, imp, argT, List.append_nil, List.map_nil, List.nil_append, show Tryd.f8.ntmps = 44 from rfl, Nat.zero_add, Nat.reduceAdd]
    repeat' (first | refine WK.seq ?_ | refine WK.reg ?_ | refine IL.nil ?_ | refine WK.skip ?_ | refine WK.block ?_ | refine WK.exit_here ?_ | refine WK.e1 ?_ | refine WK.e2 ?_ | (with_reducible refine IL.wr ?_ ?_; focus exact cW) | refine IL.sg ttok ?_ | refine IL.nn ?_ | refine IL.cS ttok ent15 [.bor, .bor] true ?_ (hS := by first | exact hn1 | exact hn2) | ((first | ((first | refine IL.ag (fun h => ?_) (fun h => ?_) | refine IL.ap (fun h => ?_) (fun h => ?_)); (fail_if_success (focus (simp only [reduceCtorEq] at h)))) | refine WK.cn (fun h => ?_) (fun h => ?_)); all_goals first | (simp only [reduceCtorEq] at h; done) | (simp only [hsA, hsD, hsE, ne_eq] at h; first | done | (exfalso; omega; done) | skip) | skip))
    refine WK.forS s.length (fun k => True) (fun k => ⟨44, [(0, .v (.string ⟨s.toArray⟩)), (2, .ptr 0 0 0), (4, .v (.int .i64 k))], [some ⟨false, 0, 1, false, [.v (.int .u16 0), .v (.int .u32 0)], 0, false⟩]⟩) ⟨trivial, ?_⟩ (fun k hk ho => ?_) (fun ho => ?_)
    · (refine Weak.renS [0] hfx rfl ?_ ?_ rfl <;> (simp only [go_sem, reduceIte, exists_eq_left', exists_eq_left, Blk.mk.injEq] <;> (try and_intros) <;> first | rfl | omega))
    · have hk1 := hk0 k hk
      repeat' (first | refine WK.seq ?_ | refine WK.reg ?_ | refine IL.nil ?_ | refine WK.skip ?_ | refine WK.block ?_ | refine WK.exit_here ?_ | refine WK.e1 ?_ | refine WK.e2 ?_ | (with_reducible refine IL.wr ?_ ?_; focus exact cW) | refine IL.sg ttok ?_ | refine IL.nn ?_ | refine IL.cS ttok ent15 [.bor, .bor] true ?_ (hS := by first | exact hn1 | exact hn2) | ((first | ((first | refine IL.ag (fun h => ?_) (fun h => ?_) | refine IL.ap (fun h => ?_) (fun h => ?_)); (fail_if_success (focus (simp only [reduceCtorEq] at h)))) | refine WK.cn (fun h => ?_) (fun h => ?_)); all_goals first | (simp only [reduceCtorEq] at h; done) | (simp only [hsA, hsD, hsE, ne_eq] at h; first | done | (exfalso; omega; done) | skip) | skip))
      all_goals try (exact absurd ‹_› hk1)
      refine ⟨trivial, ?_⟩
      (refine Weak.renS [0] hfx rfl ?_ ?_ rfl <;> (simp only [go_sem, reduceIte, exists_eq_left', exists_eq_left, Blk.mk.injEq] <;> (try and_intros) <;> first | rfl | omega))
    · repeat' (first | refine WK.seq ?_ | refine WK.reg ?_ | refine IL.nil ?_ | refine WK.skip ?_ | refine WK.block ?_ | refine WK.exit_here ?_ | refine WK.e1 ?_ | refine WK.e2 ?_ | (with_reducible refine IL.wr ?_ ?_; focus exact cW) | refine IL.sg ttok ?_ | refine IL.nn ?_ | refine IL.cS ttok ent15 [.bor, .bor] true ?_ (hS := by first | exact hn1 | exact hn2) | ((first | ((first | refine IL.ag (fun h => ?_) (fun h => ?_) | refine IL.ap (fun h => ?_) (fun h => ?_)); (fail_if_success (focus (simp only [reduceCtorEq] at h)))) | refine WK.cn (fun h => ?_) (fun h => ?_)); all_goals first | (simp only [reduceCtorEq] at h; done) | (simp only [hsA, hsD, hsE, ne_eq] at h; first | done | (exfalso; omega; done) | skip) | skip))
      all_goals try ((first | refine WK.ret ⟨.inr rfl, ?_⟩ | refine ⟨.inl rfl, ?_⟩ | refine ⟨.inl trivial, ?_⟩); refine Fin.o ?_ ?_ (h1 := by first | rfl | (simp only [go_sem, show Tryd.f8.results.toList = [.cell 2 32, .tmp 3] from rfl, reduceIte] <;> rfl)); rotate_left 1; (focus (first | rfl | skip)); all_goals try with_reducible rfl)
      all_goals first | rfl | skip
  · have hlp : p.length ≤ 1000000 := by omega
    have hlq : q.length ≤ 1000000 := by rw [ht] at hs; simp at hs; omega
    have hn1 := refNum_call p 65535 (by decide) hlp
    have hn2 := refNum_call q 4294967295 (by decide) hlq
    rw [show ((4294967295 : Nat) : Int) = 4294967295 from rfl] at hn2
    rw [show ((65535 : Nat) : Int) = 65535 from rfl] at hn1
    rw [readI_cut ht hno]
    have hw : ∃ a b : Int, IntKind.u16.wrap (refV p : Int) = a ∧ IntKind.u32.wrap (refV q : Int) = b ∧ (∀ u v, numS 65535 p = some u → numS 4294967295 q = some v → a = u ∧ b = v) := by
      refine ⟨_, _, rfl, rfl, fun u v hu hv => ?_⟩
      obtain ⟨g1, _, w1⟩ := numS_refV (by decide) hu
      obtain ⟨g2, _, w2⟩ := numS_refV (by decide) hv
      rw [g1, g2]
      exact ⟨wrap_u16 (by omega) (by omega), wrap_u32 (by omega) (by omega)⟩
    obtain ⟨a, b, wa, wb, hab⟩ := hw
    refine ⟨a, b, ?_⟩
    have hres : refRes a b (both (numS 65535 p) (numS 4294967295 q)) = .tup [idR a b, .v (.bool ((numS 65535 p).isSome && (numS 4294967295 q).isSome))] := by
      cases hu : numS 65535 p with
      | none => rfl
      | some u =>
        cases hv : numS 4294967295 q with
        | none => rfl
        | some v =>
          obtain ⟨rfl, rfl⟩ := hab u v hu hv
          rfl
    rw [hres]
    clear hres hab
    generalize (numS 65535 p).isSome = b1 at *
    generalize (numS 4294967295 q).isSome = b2 at *
    have hand : ∀ x y : Bool, (if x = true then y else false) = (x && y) := by decide
    refine SCall.of_body' (TT := TT) (fun _ => false) [false] ttok Tryd.func8 rfl (Nat.le_of_ble_eq_true rfl) rfl fun fx hfx => WK.top ?_
    simp only [impl, imp, argT, List.append_nil, List.map_nil, List.nil_append, show Tryd.f8.ntmps = 44 from rfl, Nat.zero_add, Nat.reduceAdd]
    repeat' (first | refine WK.seq ?_ | refine WK.reg ?_ | refine IL.nil ?_ | refine WK.skip ?_ | refine WK.block ?_ | refine WK.exit_here ?_ | refine WK.e1 ?_ | refine WK.e2 ?_ | (with_reducible refine IL.wr ?_ ?_; focus exact cW) | refine IL.sg ttok ?_ | refine IL.nn ?_ | refine IL.cS ttok ent15 [.bor, .bor] true ?_ (hS := by first | exact hn1 | exact hn2) | ((first | ((first | refine IL.ag (fun h => ?_) (fun h => ?_) | refine IL.ap (fun h => ?_) (fun h => ?_)); (fail_if_success (focus (simp only [reduceCtorEq] at h)))) | refine WK.cn (fun h => ?_) (fun h => ?_)); all_goals first | (simp only [reduceCtorEq] at h; done) | (simp only [hsA, hsD, hsE, ne_eq] at h; first | done | (exfalso; omega; done) | skip) | skip))
    refine WK.forS p.length.succ (fun k => k ≤ p.length) (fun k => ⟨44, [(0, .v (.string ⟨s.toArray⟩)), (2, .ptr 0 0 0), (4, .v (.int .i64 k))], [some ⟨false, 0, 1, false, [.v (.int .u16 0), .v (.int .u32 0)], 0, false⟩]⟩) ⟨Nat.zero_le _, ?_⟩ (fun k hk ho => ?_) (fun ho => ?_)
    · (refine Weak.renS [0] hfx rfl ?_ ?_ rfl <;> (simp only [go_sem, reduceIte, exists_eq_left', exists_eq_left, Blk.mk.injEq] <;> (try and_intros) <;> first | rfl | omega))
    · by_cases hkp : k < p.length
      · have hk1 := hk0 k hkp
        have hks : k < s.length := by omega
        repeat' (first | refine WK.seq ?_ | refine WK.reg ?_ | refine IL.nil ?_ | refine WK.skip ?_ | refine WK.block ?_ | refine WK.exit_here ?_ | refine WK.e1 ?_ | refine WK.e2 ?_ | (with_reducible refine IL.wr ?_ ?_; focus exact cW) | refine IL.sg ttok ?_ | refine IL.nn ?_ | refine IL.cS ttok ent15 [.bor, .bor] true ?_ (hS := by first | exact hn1 | exact hn2) | ((first | ((first | refine IL.ag (fun h => ?_) (fun h => ?_) | refine IL.ap (fun h => ?_) (fun h => ?_)); (fail_if_success (focus (simp only [reduceCtorEq] at h)))) | refine WK.cn (fun h => ?_) (fun h => ?_)); all_goals first | (simp only [reduceCtorEq] at h; done) | (simp only [hsA, hsD, hsE, ne_eq] at h; first | done | (exfalso; omega; done) | skip) | skip))
        all_goals try (exact absurd ‹_› hk1)
        refine ⟨hkp, ?_⟩
        (refine Weak.renS [0] hfx rfl ?_ ?_ rfl <;> (simp only [go_sem, reduceIte, exists_eq_left', exists_eq_left, Blk.mk.injEq] <;> (try and_intros) <;> first | rfl | omega))
      · obtain rfl : k = p.length := by omega
        clear ht
        generalize p.length = n at *
        have hn11 : ((n : Int) + 1).toNat = n + 1 := by omega
        rw [← h2] at hn2 wb
        have FX := And.intro hn11 (And.intro h1 (And.intro wa (And.intro wb hand)))
        repeat' (first | refine WK.seq ?_ | refine WK.reg ?_ | refine IL.nil ?_ | refine WK.skip ?_ | refine WK.block ?_ | refine WK.exit_here ?_ | refine WK.e1 ?_ | refine WK.e2 ?_ | (with_reducible refine IL.wr ?_ ?_; focus exact cW) | refine IL.sgF ttok ?_ | refine IL.nn ?_ | refine IL.cSF ttok ent15 [.bor, .bor] true ?_ (hS := by first | exact hn1 | exact hn2) | ((first | ((first | refine IL.ag (fun h => ?_) (fun h => ?_) | refine IL.ap (fun h => ?_) (fun h => ?_)); (fail_if_success (focus (simp only [reduceCtorEq] at h)))) | refine WK.cn (fun h => ?_) (fun h => ?_)); all_goals first | (simp only [reduceCtorEq] at h; done) | (simp only [hsA, hsD, hsE, ne_eq] at h; first | done | (exfalso; omega; done) | skip) | skip))
        all_goals try (exact absurd h58 ‹_›)
        all_goals try ((first | refine WK.ret ⟨.inr rfl, ?_⟩ | refine ⟨.inl rfl, ?_⟩ | refine ⟨.inl trivial, ?_⟩); refine Fin.o ?_ ?_ (h1 := by first | rfl | (simp only [go_sem, show Tryd.f8.results.toList = [.cell 2 32, .tmp 3] from rfl, reduceIte] <;> rfl)); rotate_left 1; (focus (first | rfl | skip)); all_goals try with_reducible rfl)
        all_goals first | rfl | (subst h; rfl) | skip
        all_goals trace_state
    · omega
end Go.Proofs.YtgomhljgjmjgfaaDoor
/- IdentShows: its function. -/
namespace Go.Proofs.YtgomhljgjmjgfaaDoor
open Go Go.Lift
set_option maxHeartbeats 4000000
set_option linter.unusedSimpArgs false
set_option linter.unusedVariables false
attribute [local irreducible] WK IL IP IG IW DW

theorem identShows_call (ev : EV) (he2 : isE ev.a) (he3 : isE ev.b) (r n : Nat) (hr : r ≤ 65535) (hn : n ≤ 4294967295) (s : List UInt8) (hs0 : s.length ≤ 9223372036854775807) :
    SCallG ev.tab Tryd.prog 3 [.agg [.v (.int .u16 r), .v (.int .u32 n)], .v (.string ⟨s.toArray⟩)] (.v (.bool true)) [.agg [.v (.int .u16 r), .v (.int .u32 n)], .v (.string ⟨s.toArray⟩)] := by
  by_cases hs : s.length ≤ 200
  rotate_left
  · refine SCallG.of_body' (G := ev.tab) (TT := TT) (fun _ => false) [false, false] ttok Tryd.func3 rfl (Nat.le_of_ble_eq_true rfl) rfl fun fx hfx hgf => WK.top ?_
    simp only [impl, imp, argT, List.append_nil, List.map_nil, List.nil_append, show Tryd.f3.ntmps = 63 from rfl, Nat.zero_add, Nat.reduceAdd]
    repeat' (first | refine WK.seq ?_ | refine WK.reg ?_ | refine IL.nil ?_ | refine WK.skip ?_ | (with_reducible refine IL.wr ?_ ?_; focus exact cW) | refine IL.sg ttok ?_ | refine IL.nn ?_ | refine IL.cS ttok ent4 [] true ?_ (hS := by exact anchor01) | refine IL.cSG hgf ttok ent5 [.bor] true ?_ (hS := by exact hsh) | refine IL.cSG hgf ttok ent6 [.bor] true ?_ (hS := by first | exact hr1 | exact hr2) | refine IL.cS ttok ent7 [.bor] true ?_ (hS := by exact hrs) | refine IL.cS ttok ent8 [.bor] true ?_ (hS := by exact hrr) | ((first | ((first | refine IL.ag (fun h => ?_) (fun h => ?_) | refine IL.ap (fun h => ?_) (fun h => ?_)); (fail_if_success (focus (simp only [reduceCtorEq] at h)))) | refine WK.cn (fun h => ?_) (fun h => ?_)); all_goals first | (simp only [reduceCtorEq] at h; done) | (simp only [hsA, hsD, hsE, ne_eq] at h; first | done | (exfalso; omega; done) | skip) | skip))
    all_goals try ((first | refine WK.ret ⟨.inr rfl, ?_⟩ | refine ⟨.inl rfl, ?_⟩ | refine ⟨.inl trivial, ?_⟩); refine Fin.o ?_ ?_ (h1 := by first | rfl | (simp only [go_sem, show Tryd.f3.results.toList = [.tmp 4] from rfl, reduceIte] <;> rfl)); rotate_left 1; (focus (first | rfl | skip)); all_goals try with_reducible rfl)
    all_goals skip
  have hsh := show_call ev r n hr hn
  have hrs := refShow_call r n hr hn
  have h1 := digits_le r (by omega)
  have h2 := digits_le n (by omega)
  have hl : (showID r n).length ≤ 1000000 := by rw [show_app]; simp; omega
  have hr1 := read_call ev he2 he3 (showID r n) hl
  rw [readI_show r n hr hn, codeRes] at hr1
  have hr2 := read_call ev he2 he3 s (by omega)
  obtain ⟨a, b, hrr⟩ := refRead_call s (by omega)
  simp only at hr1
  have he : ((ByteArray.mk (showID r n).toArray).toList == (ByteArray.mk (showID r n).toArray).toList) = true := beq_self_eq_true _
  generalize showID r n = t at *
  cases hx : readI s with
  | none =>
    rw [hx, codeRes] at hr2
    rw [hx, refRes] at hrr
    refine SCallG.of_body' (G := ev.tab) (TT := TT) (fun _ => false) [false, false] ttok Tryd.func3 rfl (Nat.le_of_ble_eq_true rfl) rfl fun fx hfx hgf => WK.top ?_
    simp only [impl, imp, argT, List.append_nil, List.map_nil, List.nil_append, show Tryd.f3.ntmps = 63 from rfl, Nat.zero_add, Nat.reduceAdd]
    have FX := he
    repeat' (first | refine WK.seq ?_ | refine WK.reg ?_ | refine IL.nil ?_ | refine WK.skip ?_ | (with_reducible refine IL.wr ?_ ?_; focus exact cW) | refine IL.sgF ttok ?_ | refine IL.nn ?_ | refine IL.cSF ttok ent4 [] true ?_ (hS := by exact anchor01) | refine IL.cSGF hgf ttok ent5 [.bor] true ?_ (hS := by exact hsh) | refine IL.cSGF hgf ttok ent6 [.bor] true ?_ (hS := by first | exact hr1 | exact hr2) | refine IL.cSF ttok ent7 [.bor] true ?_ (hS := by exact hrs) | refine IL.cSF ttok ent8 [.bor] true ?_ (hS := by exact hrr) | ((first | ((first | refine IL.ag (fun h => ?_) (fun h => ?_) | refine IL.ap (fun h => ?_) (fun h => ?_)); (fail_if_success (focus (simp only [reduceCtorEq] at h)))) | refine WK.cn (fun h => ?_) (fun h => ?_)); all_goals first | (simp only [reduceCtorEq] at h; done) | (simp only [hsA, hsD, hsE, ne_eq] at h; first | done | (exfalso; omega; done) | skip) | skip))
    all_goals try ((first | refine WK.ret ⟨.inr rfl, ?_⟩ | refine ⟨.inl rfl, ?_⟩ | refine ⟨.inl trivial, ?_⟩); refine Fin.o ?_ ?_ (h1 := by first | rfl | (simp only [go_sem, show Tryd.f3.results.toList = [.tmp 4] from rfl, reduceIte] <;> rfl)); rotate_left 1; (focus (first | rfl | skip)); all_goals try with_reducible rfl)
    all_goals rfl
  | some x =>
    rw [hx, codeRes] at hr2
    rw [hx, refRes] at hrr
    refine SCallG.of_body' (G := ev.tab) (TT := TT) (fun _ => false) [false, false] ttok Tryd.func3 rfl (Nat.le_of_ble_eq_true rfl) rfl fun fx hfx hgf => WK.top ?_
    simp only [impl, imp, argT, List.append_nil, List.map_nil, List.nil_append, show Tryd.f3.ntmps = 63 from rfl, Nat.zero_add, Nat.reduceAdd]
    have FX := he
    repeat' (first | refine WK.seq ?_ | refine WK.reg ?_ | refine IL.nil ?_ | refine WK.skip ?_ | (with_reducible refine IL.wr ?_ ?_; focus exact cW) | refine IL.sgF ttok ?_ | refine IL.nn ?_ | refine IL.cSF ttok ent4 [] true ?_ (hS := by exact anchor01) | refine IL.cSGF hgf ttok ent5 [.bor] true ?_ (hS := by exact hsh) | refine IL.cSGF hgf ttok ent6 [.bor] true ?_ (hS := by first | exact hr1 | exact hr2) | refine IL.cSF ttok ent7 [.bor] true ?_ (hS := by exact hrs) | refine IL.cSF ttok ent8 [.bor] true ?_ (hS := by exact hrr) | ((first | ((first | refine IL.ag (fun h => ?_) (fun h => ?_) | refine IL.ap (fun h => ?_) (fun h => ?_)); (fail_if_success (focus (simp only [reduceCtorEq] at h)))) | refine WK.cn (fun h => ?_) (fun h => ?_)); all_goals first | (simp only [reduceCtorEq] at h; done) | (simp only [hsA, hsD, hsE, ne_eq] at h; first | done | (exfalso; omega; done) | skip) | skip))
    all_goals try ((first | refine WK.ret ⟨.inr rfl, ?_⟩ | refine ⟨.inl rfl, ?_⟩ | refine ⟨.inl trivial, ?_⟩); refine Fin.o ?_ ?_ (h1 := by first | rfl | (simp only [go_sem, show Tryd.f3.results.toList = [.tmp 4] from rfl, reduceIte] <;> rfl)); rotate_left 1; (focus (first | rfl | skip)); all_goals try with_reducible rfl)
    all_goals rfl
end Go.Proofs.YtgomhljgjmjgfaaDoor
