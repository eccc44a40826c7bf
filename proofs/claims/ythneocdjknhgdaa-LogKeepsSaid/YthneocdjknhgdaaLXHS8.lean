import Derived.Test.YthneocdjknhgdaaProg
import Derived.DeepKeys4
import Derived.Sort.AssemblyPlain
import Derived.Sort.LotD5
import Derived.Laws.Bits64
import Derived.Laws.Bits64b
import Derived.Test.YthneocdjknhgdaaLA3
set_option linter.unusedVariables false
set_option linter.unusedSimpArgs false
/- PRINTED BY wip/tools/mktt.py: what the evaluator knows of the types of the program Ythneocdjknhgdaa. -/
namespace Go.Proofs.Ythneocdjknhgdaa
open Go Go.Lift
set_option maxRecDepth 20000

def TT : TTab := fun t => match t with
  | 2 => some ⟨(some .i64), none, 1, 8, false, true, [.v (.int .i64 0)], .oth⟩
  | 3 => some ⟨(some .i64), none, 1, 8, false, true, [.v (.int .i64 0)], .oth⟩
  | 4 => some ⟨none, none, 1, 1, false, true, [.v (.bool false)], .bool⟩
  | 5 => some ⟨(some .u8), none, 1, 1, false, true, [.v (.int .u8 0)], .oth⟩
  | 9 => some ⟨none, none, 1, 16, false, true, [.v (.string ⟨#[]⟩)], .str⟩
  | 12 => some ⟨(some .u64), none, 1, 8, false, true, [.v (.int .u64 0)], .oth⟩
  | 21 => some ⟨(some .i32), none, 1, 4, false, true, [.v (.int .i32 0)], .oth⟩
  | 22 => some ⟨none, none, 1, 24, false, false, [.row 37], (.slice 37)⟩
  | 23 => some ⟨(some .u16), none, 1, 2, false, true, [.v (.int .u16 0)], .oth⟩
  | 24 => some ⟨(some .u32), none, 1, 4, false, true, [.v (.int .u32 0)], .oth⟩
  | 25 => some ⟨none, (some [.int .u16, .int .u32, .int .u32]), 3, 12, true, true, [.v (.int .u16 0), .v (.int .u32 0), .v (.int .u32 0)], (.struct [(0, 23), (1, 24), (2, 24)])⟩
  | 26 => some ⟨none, (some [.int .u16, .int .u32, .int .u32]), 3, 12, true, true, [.v (.int .u16 0), .v (.int .u32 0), .v (.int .u32 0)], (.struct [(0, 23), (1, 24), (2, 24)])⟩
  | 28 => some ⟨none, none, 1, 8, false, false, [.v (.map none)], .oth⟩
  | 29 => some ⟨none, none, 1, 24, false, false, [.row 57], (.slice 57)⟩
  | 30 => some ⟨none, none, 3, 40, true, false, [.v (.map none), .row 57, .v (.int .i64 0)], (.struct [(0, 28), (1, 29), (2, 3)])⟩
  | 31 => some ⟨none, none, 3, 40, true, false, [.v (.map none), .row 57, .v (.int .i64 0)], (.struct [(0, 28), (1, 29), (2, 3)])⟩
  | 32 => some ⟨none, none, 1, 24, false, false, [.row 41], (.slice 41)⟩
  | 33 => some ⟨none, (some [.int .u16, .int .u32]), 2, 8, true, true, [.v (.int .u16 0), .v (.int .u32 0)], (.struct [(0, 23), (1, 24)])⟩
  | 34 => some ⟨none, (some [.int .u16, .int .u32]), 2, 8, true, true, [.v (.int .u16 0), .v (.int .u32 0)], (.struct [(0, 23), (1, 24)])⟩
  | 35 => some ⟨none, none, 1, 24, false, false, [.row 5], (.slice 5)⟩
  | 36 => some ⟨none, none, 3, 32, true, false, [.v (.int .u16 0), .v (.int .u32 0), .row 5], (.struct [(0, 34), (2, 35)])⟩
  | 37 => some ⟨none, none, 3, 32, true, false, [.v (.int .u16 0), .v (.int .u32 0), .row 5], (.struct [(0, 34), (2, 35)])⟩
  | 38 => some ⟨(some .i64), none, 1, 8, false, true, [.v (.int .i64 0)], .oth⟩
  | 40 => some ⟨none, (some [.int .u16, .int .u32, .str]), 3, 24, true, true, [.v (.int .u16 0), .v (.int .u32 0), .v (.string ⟨#[]⟩)], (.struct [(0, 23), (1, 24), (2, 9)])⟩
  | 41 => some ⟨none, (some [.int .u16, .int .u32, .str]), 3, 24, true, true, [.v (.int .u16 0), .v (.int .u32 0), .v (.string ⟨#[]⟩)], (.struct [(0, 23), (1, 24), (2, 9)])⟩
  | 42 => some ⟨none, none, 1, 24, false, false, [.row 35], (.slice 35)⟩
  | 44 => some ⟨none, none, 1, 24, false, false, [.row 9], (.slice 9)⟩
  | 54 => some ⟨none, none, 1, 8, false, false, [.v (.pointer none)], .oth⟩
  | 56 => some ⟨none, (some [.int .u16, .int .u32, .str]), 3, 24, true, true, [.v (.int .u16 0), .v (.int .u32 0), .v (.string ⟨#[]⟩)], (.struct [(0, 34), (2, 9)])⟩
  | 57 => some ⟨none, (some [.int .u16, .int .u32, .str]), 3, 24, true, true, [.v (.int .u16 0), .v (.int .u32 0), .v (.string ⟨#[]⟩)], (.struct [(0, 34), (2, 9)])⟩
  | 58 => some ⟨none, none, 1, 24, false, false, [.row 24], (.slice 24)⟩
  | 60 => some ⟨(some .u64), none, 1, 8, false, true, [.v (.int .u64 0)], .oth⟩
  | 64 => some ⟨(some .u64), none, 1, 8, false, true, [.v (.int .u64 0)], .oth⟩
  | 66 => some ⟨(some .i64), none, 1, 8, false, true, [.v (.int .i64 0)], .oth⟩
  | 75 => some ⟨(some .u64), none, 1, 8, false, true, [.v (.int .u64 0)], .oth⟩
  | 79 => some ⟨none, none, 1, 8, false, false, [.v (.pointer none)], .oth⟩
  | 82 => some ⟨none, none, 1, 8, false, false, [.v (.pointer none)], .oth⟩
  | 94 => some ⟨none, none, 1, 8, false, false, [.v (.pointer none)], .oth⟩
  | _ => none

@[go_sem] theorem TTe2 : TT 2 = some ⟨(some .i64), none, 1, 8, false, true, [.v (.int .i64 0)], .oth⟩ := rfl
@[go_sem] theorem TTe3 : TT 3 = some ⟨(some .i64), none, 1, 8, false, true, [.v (.int .i64 0)], .oth⟩ := rfl
@[go_sem] theorem TTe4 : TT 4 = some ⟨none, none, 1, 1, false, true, [.v (.bool false)], .bool⟩ := rfl
@[go_sem] theorem TTe5 : TT 5 = some ⟨(some .u8), none, 1, 1, false, true, [.v (.int .u8 0)], .oth⟩ := rfl
@[go_sem] theorem TTe9 : TT 9 = some ⟨none, none, 1, 16, false, true, [.v (.string ⟨#[]⟩)], .str⟩ := rfl
@[go_sem] theorem TTe12 : TT 12 = some ⟨(some .u64), none, 1, 8, false, true, [.v (.int .u64 0)], .oth⟩ := rfl
@[go_sem] theorem TTe21 : TT 21 = some ⟨(some .i32), none, 1, 4, false, true, [.v (.int .i32 0)], .oth⟩ := rfl
@[go_sem] theorem TTe22 : TT 22 = some ⟨none, none, 1, 24, false, false, [.row 37], (.slice 37)⟩ := rfl
@[go_sem] theorem TTe23 : TT 23 = some ⟨(some .u16), none, 1, 2, false, true, [.v (.int .u16 0)], .oth⟩ := rfl
@[go_sem] theorem TTe24 : TT 24 = some ⟨(some .u32), none, 1, 4, false, true, [.v (.int .u32 0)], .oth⟩ := rfl
@[go_sem] theorem TTe25 : TT 25 = some ⟨none, (some [.int .u16, .int .u32, .int .u32]), 3, 12, true, true, [.v (.int .u16 0), .v (.int .u32 0), .v (.int .u32 0)], (.struct [(0, 23), (1, 24), (2, 24)])⟩ := rfl
@[go_sem] theorem TTe26 : TT 26 = some ⟨none, (some [.int .u16, .int .u32, .int .u32]), 3, 12, true, true, [.v (.int .u16 0), .v (.int .u32 0), .v (.int .u32 0)], (.struct [(0, 23), (1, 24), (2, 24)])⟩ := rfl
@[go_sem] theorem TTe28 : TT 28 = some ⟨none, none, 1, 8, false, false, [.v (.map none)], .oth⟩ := rfl
@[go_sem] theorem TTe29 : TT 29 = some ⟨none, none, 1, 24, false, false, [.row 57], (.slice 57)⟩ := rfl
@[go_sem] theorem TTe30 : TT 30 = some ⟨none, none, 3, 40, true, false, [.v (.map none), .row 57, .v (.int .i64 0)], (.struct [(0, 28), (1, 29), (2, 3)])⟩ := rfl
@[go_sem] theorem TTe31 : TT 31 = some ⟨none, none, 3, 40, true, false, [.v (.map none), .row 57, .v (.int .i64 0)], (.struct [(0, 28), (1, 29), (2, 3)])⟩ := rfl
@[go_sem] theorem TTe32 : TT 32 = some ⟨none, none, 1, 24, false, false, [.row 41], (.slice 41)⟩ := rfl
@[go_sem] theorem TTe33 : TT 33 = some ⟨none, (some [.int .u16, .int .u32]), 2, 8, true, true, [.v (.int .u16 0), .v (.int .u32 0)], (.struct [(0, 23), (1, 24)])⟩ := rfl
@[go_sem] theorem TTe34 : TT 34 = some ⟨none, (some [.int .u16, .int .u32]), 2, 8, true, true, [.v (.int .u16 0), .v (.int .u32 0)], (.struct [(0, 23), (1, 24)])⟩ := rfl
@[go_sem] theorem TTe35 : TT 35 = some ⟨none, none, 1, 24, false, false, [.row 5], (.slice 5)⟩ := rfl
@[go_sem] theorem TTe36 : TT 36 = some ⟨none, none, 3, 32, true, false, [.v (.int .u16 0), .v (.int .u32 0), .row 5], (.struct [(0, 34), (2, 35)])⟩ := rfl
@[go_sem] theorem TTe37 : TT 37 = some ⟨none, none, 3, 32, true, false, [.v (.int .u16 0), .v (.int .u32 0), .row 5], (.struct [(0, 34), (2, 35)])⟩ := rfl
@[go_sem] theorem TTe38 : TT 38 = some ⟨(some .i64), none, 1, 8, false, true, [.v (.int .i64 0)], .oth⟩ := rfl
@[go_sem] theorem TTe40 : TT 40 = some ⟨none, (some [.int .u16, .int .u32, .str]), 3, 24, true, true, [.v (.int .u16 0), .v (.int .u32 0), .v (.string ⟨#[]⟩)], (.struct [(0, 23), (1, 24), (2, 9)])⟩ := rfl
@[go_sem] theorem TTe41 : TT 41 = some ⟨none, (some [.int .u16, .int .u32, .str]), 3, 24, true, true, [.v (.int .u16 0), .v (.int .u32 0), .v (.string ⟨#[]⟩)], (.struct [(0, 23), (1, 24), (2, 9)])⟩ := rfl
@[go_sem] theorem TTe42 : TT 42 = some ⟨none, none, 1, 24, false, false, [.row 35], (.slice 35)⟩ := rfl
@[go_sem] theorem TTe44 : TT 44 = some ⟨none, none, 1, 24, false, false, [.row 9], (.slice 9)⟩ := rfl
@[go_sem] theorem TTe54 : TT 54 = some ⟨none, none, 1, 8, false, false, [.v (.pointer none)], .oth⟩ := rfl
@[go_sem] theorem TTe56 : TT 56 = some ⟨none, (some [.int .u16, .int .u32, .str]), 3, 24, true, true, [.v (.int .u16 0), .v (.int .u32 0), .v (.string ⟨#[]⟩)], (.struct [(0, 34), (2, 9)])⟩ := rfl
@[go_sem] theorem TTe57 : TT 57 = some ⟨none, (some [.int .u16, .int .u32, .str]), 3, 24, true, true, [.v (.int .u16 0), .v (.int .u32 0), .v (.string ⟨#[]⟩)], (.struct [(0, 34), (2, 9)])⟩ := rfl
@[go_sem] theorem TTe58 : TT 58 = some ⟨none, none, 1, 24, false, false, [.row 24], (.slice 24)⟩ := rfl
@[go_sem] theorem TTe60 : TT 60 = some ⟨(some .u64), none, 1, 8, false, true, [.v (.int .u64 0)], .oth⟩ := rfl
@[go_sem] theorem TTe64 : TT 64 = some ⟨(some .u64), none, 1, 8, false, true, [.v (.int .u64 0)], .oth⟩ := rfl
@[go_sem] theorem TTe66 : TT 66 = some ⟨(some .i64), none, 1, 8, false, true, [.v (.int .i64 0)], .oth⟩ := rfl
@[go_sem] theorem TTe75 : TT 75 = some ⟨(some .u64), none, 1, 8, false, true, [.v (.int .u64 0)], .oth⟩ := rfl
@[go_sem] theorem TTe79 : TT 79 = some ⟨none, none, 1, 8, false, false, [.v (.pointer none)], .oth⟩ := rfl
@[go_sem] theorem TTe82 : TT 82 = some ⟨none, none, 1, 8, false, false, [.v (.pointer none)], .oth⟩ := rfl
@[go_sem] theorem TTe94 : TT 94 = some ⟨none, none, 1, 8, false, false, [.v (.pointer none)], .oth⟩ := rfl
theorem tt2 : TIok Try.prog 2 ⟨(some .i64), none, 1, 8, false, true, [.v (.int .i64 0)], .oth⟩ :=
  TIok.mk' (z := ((.int .i64 0))) (by kernel_rfl) (by simp [zOk, Value.cells, Value.oneCell']) rfl (by decide) Try.underlying2 trivial rfl (fun k h => by cases h; exact Try.underlying2) (fun ks h => by cases h)
theorem tt3 : TIok Try.prog 3 ⟨(some .i64), none, 1, 8, false, true, [.v (.int .i64 0)], .oth⟩ :=
  TIok.mk' (z := ((.int .i64 0))) (by kernel_rfl) (by simp [zOk, Value.cells, Value.oneCell']) rfl (by decide) Try.underlying3 trivial rfl (fun k h => by cases h; exact Try.underlying3) (fun ks h => by cases h)
theorem tt4 : TIok Try.prog 4 ⟨none, none, 1, 1, false, true, [.v (.bool false)], .bool⟩ :=
  TIok.mk' (z := ((.bool false))) (by kernel_rfl) (by simp [zOk, Value.cells, Value.oneCell']) rfl (by decide) Try.underlying4 rfl rfl (fun k h => by cases h) (fun ks h => by cases h)
theorem tt5 : TIok Try.prog 5 ⟨(some .u8), none, 1, 1, false, true, [.v (.int .u8 0)], .oth⟩ :=
  TIok.mk' (z := ((.int .u8 0))) (by kernel_rfl) (by simp [zOk, Value.cells, Value.oneCell']) rfl (by decide) Try.underlying5 trivial rfl (fun k h => by cases h; exact Try.underlying5) (fun ks h => by cases h)
theorem tt9 : TIok Try.prog 9 ⟨none, none, 1, 16, false, true, [.v (.string ⟨#[]⟩)], .str⟩ :=
  TIok.mk' (z := ((.string ⟨#[]⟩))) (by kernel_rfl) (by simp [zOk, Value.cells, Value.oneCell']) rfl (by decide) Try.underlying9 rfl rfl (fun k h => by cases h) (fun ks h => by cases h)
theorem tt12 : TIok Try.prog 12 ⟨(some .u64), none, 1, 8, false, true, [.v (.int .u64 0)], .oth⟩ :=
  TIok.mk' (z := ((.int .u64 0))) (by kernel_rfl) (by simp [zOk, Value.cells, Value.oneCell']) rfl (by decide) Try.underlying12 trivial rfl (fun k h => by cases h; exact Try.underlying12) (fun ks h => by cases h)
theorem tt21 : TIok Try.prog 21 ⟨(some .i32), none, 1, 4, false, true, [.v (.int .i32 0)], .oth⟩ :=
  TIok.mk' (z := ((.int .i32 0))) (by kernel_rfl) (by simp [zOk, Value.cells, Value.oneCell']) rfl (by decide) Try.underlying21 trivial rfl (fun k h => by cases h; exact Try.underlying21) (fun ks h => by cases h)
theorem tt22 : TIok Try.prog 22 ⟨none, none, 1, 24, false, false, [.row 37], (.slice 37)⟩ :=
  TIok.mk' (z := ((.slice none 0 0))) (by kernel_rfl) (by simp [zOk, Value.cells, Value.oneCell']) rfl (by decide) Try.underlying22 rfl rfl (fun k h => by cases h) (fun ks h => by cases h)
theorem tt23 : TIok Try.prog 23 ⟨(some .u16), none, 1, 2, false, true, [.v (.int .u16 0)], .oth⟩ :=
  TIok.mk' (z := ((.int .u16 0))) (by kernel_rfl) (by simp [zOk, Value.cells, Value.oneCell']) rfl (by decide) Try.underlying23 trivial rfl (fun k h => by cases h; exact Try.underlying23) (fun ks h => by cases h)
theorem tt24 : TIok Try.prog 24 ⟨(some .u32), none, 1, 4, false, true, [.v (.int .u32 0)], .oth⟩ :=
  TIok.mk' (z := ((.int .u32 0))) (by kernel_rfl) (by simp [zOk, Value.cells, Value.oneCell']) rfl (by decide) Try.underlying24 trivial rfl (fun k h => by cases h; exact Try.underlying24) (fun ks h => by cases h)
theorem tt25_eq : EqTy Try.prog 2 25 [.int .u16, .int .u32, .int .u32] :=
  eqTy_struct Try.underlying25 (by kernel_rfl) (.one rfl rfl Try.underlying23 rfl (scEq_int 0 Try.underlying23) (.one rfl rfl Try.underlying24 rfl (scEq_int 0 Try.underlying24) (.one rfl rfl Try.underlying24 rfl (scEq_int 0 Try.underlying24) .nil)))
theorem tt25 : TIok Try.prog 25 ⟨none, (some [.int .u16, .int .u32, .int .u32]), 3, 12, true, true, [.v (.int .u16 0), .v (.int .u32 0), .v (.int .u32 0)], (.struct [(0, 23), (1, 24), (2, 24)])⟩ :=
  TIok.mk' (z := (.agg #[(.int .u16 0), (.int .u32 0), (.int .u32 0)])) (by kernel_rfl) (by simp [zOk, Value.cells, Value.oneCell']) rfl (by decide) Try.underlying25 ⟨_, rfl, rfl⟩ rfl (fun k h => by cases h) (eqk_flat (by kernel_rfl) (by decide) tt25_eq)
theorem tt26_eq : EqTy Try.prog 2 26 [.int .u16, .int .u32, .int .u32] :=
  eqTy_struct Try.underlying26 (by kernel_rfl) (.one rfl rfl Try.underlying23 rfl (scEq_int 0 Try.underlying23) (.one rfl rfl Try.underlying24 rfl (scEq_int 0 Try.underlying24) (.one rfl rfl Try.underlying24 rfl (scEq_int 0 Try.underlying24) .nil)))
theorem tt26 : TIok Try.prog 26 ⟨none, (some [.int .u16, .int .u32, .int .u32]), 3, 12, true, true, [.v (.int .u16 0), .v (.int .u32 0), .v (.int .u32 0)], (.struct [(0, 23), (1, 24), (2, 24)])⟩ :=
  TIok.mk' (z := (.agg #[(.int .u16 0), (.int .u32 0), (.int .u32 0)])) (by kernel_rfl) (by simp [zOk, Value.cells, Value.oneCell']) rfl (by decide) Try.underlying26 ⟨_, rfl, rfl⟩ rfl (fun k h => by cases h) (eqk_flat (by kernel_rfl) (by decide) tt26_eq)
theorem tt28 : TIok Try.prog 28 ⟨none, none, 1, 8, false, false, [.v (.map none)], .oth⟩ :=
  TIok.mk' (z := ((.map none))) (by kernel_rfl) (by simp [zOk, Value.cells, Value.oneCell']) rfl (by decide) Try.underlying28 trivial rfl (fun k h => by cases h) (fun ks h => by cases h)
theorem tt29 : TIok Try.prog 29 ⟨none, none, 1, 24, false, false, [.row 57], (.slice 57)⟩ :=
  TIok.mk' (z := ((.slice none 0 0))) (by kernel_rfl) (by simp [zOk, Value.cells, Value.oneCell']) rfl (by decide) Try.underlying29 rfl rfl (fun k h => by cases h) (fun ks h => by cases h)
theorem tt30 : TIok Try.prog 30 ⟨none, none, 3, 40, true, false, [.v (.map none), .row 57, .v (.int .i64 0)], (.struct [(0, 28), (1, 29), (2, 3)])⟩ :=
  TIok.mk' (z := (.agg #[(.map none), (.slice none 0 0), (.int .i64 0)])) (by kernel_rfl) (by simp [zOk, Value.cells, Value.oneCell']) rfl (by decide) Try.underlying30 ⟨_, rfl, rfl⟩ rfl (fun k h => by cases h) (fun ks h => by cases h)
theorem tt31 : TIok Try.prog 31 ⟨none, none, 3, 40, true, false, [.v (.map none), .row 57, .v (.int .i64 0)], (.struct [(0, 28), (1, 29), (2, 3)])⟩ :=
  TIok.mk' (z := (.agg #[(.map none), (.slice none 0 0), (.int .i64 0)])) (by kernel_rfl) (by simp [zOk, Value.cells, Value.oneCell']) rfl (by decide) Try.underlying31 ⟨_, rfl, rfl⟩ rfl (fun k h => by cases h) (fun ks h => by cases h)
theorem tt32 : TIok Try.prog 32 ⟨none, none, 1, 24, false, false, [.row 41], (.slice 41)⟩ :=
  TIok.mk' (z := ((.slice none 0 0))) (by kernel_rfl) (by simp [zOk, Value.cells, Value.oneCell']) rfl (by decide) Try.underlying32 rfl rfl (fun k h => by cases h) (fun ks h => by cases h)
theorem tt33_eq : EqTy Try.prog 2 33 [.int .u16, .int .u32] :=
  eqTy_struct Try.underlying33 (by kernel_rfl) (.one rfl rfl Try.underlying23 rfl (scEq_int 0 Try.underlying23) (.one rfl rfl Try.underlying24 rfl (scEq_int 0 Try.underlying24) .nil))
theorem tt33 : TIok Try.prog 33 ⟨none, (some [.int .u16, .int .u32]), 2, 8, true, true, [.v (.int .u16 0), .v (.int .u32 0)], (.struct [(0, 23), (1, 24)])⟩ :=
  TIok.mk' (z := (.agg #[(.int .u16 0), (.int .u32 0)])) (by kernel_rfl) (by simp [zOk, Value.cells, Value.oneCell']) rfl (by decide) Try.underlying33 ⟨_, rfl, rfl⟩ rfl (fun k h => by cases h) (eqk_flat (by kernel_rfl) (by decide) tt33_eq)
theorem tt34_eq : EqTy Try.prog 2 34 [.int .u16, .int .u32] :=
  eqTy_struct Try.underlying34 (by kernel_rfl) (.one rfl rfl Try.underlying23 rfl (scEq_int 0 Try.underlying23) (.one rfl rfl Try.underlying24 rfl (scEq_int 0 Try.underlying24) .nil))
theorem tt34 : TIok Try.prog 34 ⟨none, (some [.int .u16, .int .u32]), 2, 8, true, true, [.v (.int .u16 0), .v (.int .u32 0)], (.struct [(0, 23), (1, 24)])⟩ :=
  TIok.mk' (z := (.agg #[(.int .u16 0), (.int .u32 0)])) (by kernel_rfl) (by simp [zOk, Value.cells, Value.oneCell']) rfl (by decide) Try.underlying34 ⟨_, rfl, rfl⟩ rfl (fun k h => by cases h) (eqk_flat (by kernel_rfl) (by decide) tt34_eq)
theorem tt35 : TIok Try.prog 35 ⟨none, none, 1, 24, false, false, [.row 5], (.slice 5)⟩ :=
  TIok.mk' (z := ((.slice none 0 0))) (by kernel_rfl) (by simp [zOk, Value.cells, Value.oneCell']) rfl (by decide) Try.underlying35 rfl rfl (fun k h => by cases h) (fun ks h => by cases h)
theorem tt36 : TIok Try.prog 36 ⟨none, none, 3, 32, true, false, [.v (.int .u16 0), .v (.int .u32 0), .row 5], (.struct [(0, 34), (2, 35)])⟩ :=
  TIok.mk' (z := (.agg #[(.int .u16 0), (.int .u32 0), (.slice none 0 0)])) (by kernel_rfl) (by simp [zOk, Value.cells, Value.oneCell']) rfl (by decide) Try.underlying36 ⟨_, rfl, rfl⟩ rfl (fun k h => by cases h) (fun ks h => by cases h)
theorem tt37 : TIok Try.prog 37 ⟨none, none, 3, 32, true, false, [.v (.int .u16 0), .v (.int .u32 0), .row 5], (.struct [(0, 34), (2, 35)])⟩ :=
  TIok.mk' (z := (.agg #[(.int .u16 0), (.int .u32 0), (.slice none 0 0)])) (by kernel_rfl) (by simp [zOk, Value.cells, Value.oneCell']) rfl (by decide) Try.underlying37 ⟨_, rfl, rfl⟩ rfl (fun k h => by cases h) (fun ks h => by cases h)
theorem tt38 : TIok Try.prog 38 ⟨(some .i64), none, 1, 8, false, true, [.v (.int .i64 0)], .oth⟩ :=
  TIok.mk' (z := ((.int .i64 0))) (by kernel_rfl) (by simp [zOk, Value.cells, Value.oneCell']) rfl (by decide) Try.underlying38 trivial rfl (fun k h => by cases h; exact Try.underlying38) (fun ks h => by cases h)
theorem tt40_eq : EqTy Try.prog 2 40 [.int .u16, .int .u32, .str] :=
  eqTy_struct Try.underlying40 (by kernel_rfl) (.one rfl rfl Try.underlying23 rfl (scEq_int 0 Try.underlying23) (.one rfl rfl Try.underlying24 rfl (scEq_int 0 Try.underlying24) (.one rfl rfl Try.underlying9 rfl (scEq_str 0 Try.underlying9) .nil)))
theorem tt40 : TIok Try.prog 40 ⟨none, (some [.int .u16, .int .u32, .str]), 3, 24, true, true, [.v (.int .u16 0), .v (.int .u32 0), .v (.string ⟨#[]⟩)], (.struct [(0, 23), (1, 24), (2, 9)])⟩ :=
  TIok.mk' (z := (.agg #[(.int .u16 0), (.int .u32 0), (.string ⟨#[]⟩)])) (by kernel_rfl) (by simp [zOk, Value.cells, Value.oneCell']) rfl (by decide) Try.underlying40 ⟨_, rfl, rfl⟩ rfl (fun k h => by cases h) (eqk_flat (by kernel_rfl) (by decide) tt40_eq)
theorem tt41_eq : EqTy Try.prog 2 41 [.int .u16, .int .u32, .str] :=
  eqTy_struct Try.underlying41 (by kernel_rfl) (.one rfl rfl Try.underlying23 rfl (scEq_int 0 Try.underlying23) (.one rfl rfl Try.underlying24 rfl (scEq_int 0 Try.underlying24) (.one rfl rfl Try.underlying9 rfl (scEq_str 0 Try.underlying9) .nil)))
theorem tt41 : TIok Try.prog 41 ⟨none, (some [.int .u16, .int .u32, .str]), 3, 24, true, true, [.v (.int .u16 0), .v (.int .u32 0), .v (.string ⟨#[]⟩)], (.struct [(0, 23), (1, 24), (2, 9)])⟩ :=
  TIok.mk' (z := (.agg #[(.int .u16 0), (.int .u32 0), (.string ⟨#[]⟩)])) (by kernel_rfl) (by simp [zOk, Value.cells, Value.oneCell']) rfl (by decide) Try.underlying41 ⟨_, rfl, rfl⟩ rfl (fun k h => by cases h) (eqk_flat (by kernel_rfl) (by decide) tt41_eq)
theorem tt42 : TIok Try.prog 42 ⟨none, none, 1, 24, false, false, [.row 35], (.slice 35)⟩ :=
  TIok.mk' (z := ((.slice none 0 0))) (by kernel_rfl) (by simp [zOk, Value.cells, Value.oneCell']) rfl (by decide) Try.underlying42 rfl rfl (fun k h => by cases h) (fun ks h => by cases h)
theorem tt44 : TIok Try.prog 44 ⟨none, none, 1, 24, false, false, [.row 9], (.slice 9)⟩ :=
  TIok.mk' (z := ((.slice none 0 0))) (by kernel_rfl) (by simp [zOk, Value.cells, Value.oneCell']) rfl (by decide) Try.underlying44 rfl rfl (fun k h => by cases h) (fun ks h => by cases h)
theorem tt54 : TIok Try.prog 54 ⟨none, none, 1, 8, false, false, [.v (.pointer none)], .oth⟩ :=
  TIok.mk' (z := ((.pointer none))) (by kernel_rfl) (by simp [zOk, Value.cells, Value.oneCell']) rfl (by decide) Try.underlying54 trivial rfl (fun k h => by cases h) (fun ks h => by cases h)
theorem tt56_eq : EqTy Try.prog 3 56 [.int .u16, .int .u32, .str] :=
  eqTy_struct Try.underlying56 (by kernel_rfl) (.sub (ks1 := [.int .u16, .int .u32]) (ks := [.str]) rfl rfl Try.underlying34 (by kernel_rfl) (tt34_eq.up (by decide)) (.one rfl rfl Try.underlying9 rfl (scEq_str 1 Try.underlying9) .nil))
theorem tt56 : TIok Try.prog 56 ⟨none, (some [.int .u16, .int .u32, .str]), 3, 24, true, true, [.v (.int .u16 0), .v (.int .u32 0), .v (.string ⟨#[]⟩)], (.struct [(0, 34), (2, 9)])⟩ :=
  TIok.mk' (z := (.agg #[(.int .u16 0), (.int .u32 0), (.string ⟨#[]⟩)])) (by kernel_rfl) (by simp [zOk, Value.cells, Value.oneCell']) rfl (by decide) Try.underlying56 ⟨_, rfl, rfl⟩ rfl (fun k h => by cases h) (eqk_flat (by kernel_rfl) (by decide) tt56_eq)
theorem tt57_eq : EqTy Try.prog 3 57 [.int .u16, .int .u32, .str] :=
  eqTy_struct Try.underlying57 (by kernel_rfl) (.sub (ks1 := [.int .u16, .int .u32]) (ks := [.str]) rfl rfl Try.underlying34 (by kernel_rfl) (tt34_eq.up (by decide)) (.one rfl rfl Try.underlying9 rfl (scEq_str 1 Try.underlying9) .nil))
theorem tt57 : TIok Try.prog 57 ⟨none, (some [.int .u16, .int .u32, .str]), 3, 24, true, true, [.v (.int .u16 0), .v (.int .u32 0), .v (.string ⟨#[]⟩)], (.struct [(0, 34), (2, 9)])⟩ :=
  TIok.mk' (z := (.agg #[(.int .u16 0), (.int .u32 0), (.string ⟨#[]⟩)])) (by kernel_rfl) (by simp [zOk, Value.cells, Value.oneCell']) rfl (by decide) Try.underlying57 ⟨_, rfl, rfl⟩ rfl (fun k h => by cases h) (eqk_flat (by kernel_rfl) (by decide) tt57_eq)
theorem tt58 : TIok Try.prog 58 ⟨none, none, 1, 24, false, false, [.row 24], (.slice 24)⟩ :=
  TIok.mk' (z := ((.slice none 0 0))) (by kernel_rfl) (by simp [zOk, Value.cells, Value.oneCell']) rfl (by decide) Try.underlying58 rfl rfl (fun k h => by cases h) (fun ks h => by cases h)
theorem tt60 : TIok Try.prog 60 ⟨(some .u64), none, 1, 8, false, true, [.v (.int .u64 0)], .oth⟩ :=
  TIok.mk' (z := ((.int .u64 0))) (by kernel_rfl) (by simp [zOk, Value.cells, Value.oneCell']) rfl (by decide) Try.underlying60 trivial rfl (fun k h => by cases h; exact Try.underlying60) (fun ks h => by cases h)
theorem tt64 : TIok Try.prog 64 ⟨(some .u64), none, 1, 8, false, true, [.v (.int .u64 0)], .oth⟩ :=
  TIok.mk' (z := ((.int .u64 0))) (by kernel_rfl) (by simp [zOk, Value.cells, Value.oneCell']) rfl (by decide) Try.underlying64 trivial rfl (fun k h => by cases h; exact Try.underlying64) (fun ks h => by cases h)
theorem tt66 : TIok Try.prog 66 ⟨(some .i64), none, 1, 8, false, true, [.v (.int .i64 0)], .oth⟩ :=
  TIok.mk' (z := ((.int .i64 0))) (by kernel_rfl) (by simp [zOk, Value.cells, Value.oneCell']) rfl (by decide) Try.underlying66 trivial rfl (fun k h => by cases h; exact Try.underlying66) (fun ks h => by cases h)
theorem tt75 : TIok Try.prog 75 ⟨(some .u64), none, 1, 8, false, true, [.v (.int .u64 0)], .oth⟩ :=
  TIok.mk' (z := ((.int .u64 0))) (by kernel_rfl) (by simp [zOk, Value.cells, Value.oneCell']) rfl (by decide) Try.underlying75 trivial rfl (fun k h => by cases h; exact Try.underlying75) (fun ks h => by cases h)
theorem tt79 : TIok Try.prog 79 ⟨none, none, 1, 8, false, false, [.v (.pointer none)], .oth⟩ :=
  TIok.mk' (z := ((.pointer none))) (by kernel_rfl) (by simp [zOk, Value.cells, Value.oneCell']) rfl (by decide) Try.underlying79 trivial rfl (fun k h => by cases h) (fun ks h => by cases h)
theorem tt82 : TIok Try.prog 82 ⟨none, none, 1, 8, false, false, [.v (.pointer none)], .oth⟩ :=
  TIok.mk' (z := ((.pointer none))) (by kernel_rfl) (by simp [zOk, Value.cells, Value.oneCell']) rfl (by decide) Try.underlying82 trivial rfl (fun k h => by cases h) (fun ks h => by cases h)
theorem tt94 : TIok Try.prog 94 ⟨none, none, 1, 8, false, false, [.v (.pointer none)], .oth⟩ :=
  TIok.mk' (z := ((.pointer none))) (by kernel_rfl) (by simp [zOk, Value.cells, Value.oneCell']) rfl (by decide) Try.underlying94 trivial rfl (fun k h => by cases h) (fun ks h => by cases h)
theorem ttok : TTok Try.prog TT := by
  intro t i h
  unfold TT at h
  split at h <;> first | (cases h; done) | (cases h; first | exact tt2 | exact tt3 | exact tt4 | exact tt5 | exact tt9 | exact tt12 | exact tt21 | exact tt22 | exact tt23 | exact tt24 | exact tt25 | exact tt26 | exact tt28 | exact tt29 | exact tt30 | exact tt31 | exact tt32 | exact tt33 | exact tt34 | exact tt35 | exact tt36 | exact tt37 | exact tt38 | exact tt40 | exact tt41 | exact tt42 | exact tt44 | exact tt54 | exact tt56 | exact tt57 | exact tt58 | exact tt60 | exact tt64 | exact tt66 | exact tt75 | exact tt79 | exact tt82 | exact tt94)
theorem mixed : Try.prog.follows .mixedOrders = true := by kernel_rfl
theorem ent5 : Ent Try.prog 5 := ⟨_, Try.func5, by kernel_rfl, rfl⟩
theorem ent6 : Ent Try.prog 6 := ⟨_, Try.func6, by kernel_rfl, rfl⟩
theorem ent7 : Ent Try.prog 7 := ⟨_, Try.func7, by kernel_rfl, rfl⟩
theorem ent9 : Ent Try.prog 9 := ⟨_, Try.func9, by kernel_rfl, rfl⟩
theorem ent10 : Ent Try.prog 10 := ⟨_, Try.func10, by kernel_rfl, rfl⟩
theorem ent11 : Ent Try.prog 11 := ⟨_, Try.func11, by kernel_rfl, rfl⟩
theorem ent12 : Ent Try.prog 12 := ⟨_, Try.func12, by kernel_rfl, rfl⟩
theorem ent13 : Ent Try.prog 13 := ⟨_, Try.func13, by kernel_rfl, rfl⟩
theorem ent14 : Ent Try.prog 14 := ⟨_, Try.func14, by kernel_rfl, rfl⟩
theorem ent15 : Ent Try.prog 15 := ⟨_, Try.func15, by kernel_rfl, rfl⟩
theorem ent16 : Ent Try.prog 16 := ⟨_, Try.func16, by kernel_rfl, rfl⟩
theorem ent17 : Ent Try.prog 17 := ⟨_, Try.func17, by kernel_rfl, rfl⟩
theorem ent18 : Ent Try.prog 18 := ⟨_, Try.func18, by kernel_rfl, rfl⟩
theorem ent19 : Ent Try.prog 19 := ⟨_, Try.func19, by kernel_rfl, rfl⟩
theorem ent20 : Ent Try.prog 20 := ⟨_, Try.func20, by kernel_rfl, rfl⟩
theorem ent21 : Ent Try.prog 21 := ⟨_, Try.func21, by kernel_rfl, rfl⟩
theorem ent22 : Ent Try.prog 22 := ⟨_, Try.func22, by kernel_rfl, rfl⟩
theorem ent23 : Ent Try.prog 23 := ⟨_, Try.func23, by kernel_rfl, rfl⟩
theorem ent24 : Ent Try.prog 24 := ⟨_, Try.func24, by kernel_rfl, rfl⟩
theorem ent25 : Ent Try.prog 25 := ⟨_, Try.func25, by kernel_rfl, rfl⟩
theorem ent26 : Ent Try.prog 26 := ⟨_, Try.func26, by kernel_rfl, rfl⟩
theorem ent28 : Ent Try.prog 28 := ⟨_, Try.func28, by kernel_rfl, rfl⟩
theorem ent29 : Ent Try.prog 29 := ⟨_, Try.func29, by kernel_rfl, rfl⟩
theorem ent30 : Ent Try.prog 30 := ⟨_, Try.func30, by kernel_rfl, rfl⟩
theorem ent31 : Ent Try.prog 31 := ⟨_, Try.func31, by kernel_rfl, rfl⟩
theorem ent32 : Ent Try.prog 32 := ⟨_, Try.func32, by kernel_rfl, rfl⟩
theorem ent33 : Ent Try.prog 33 := ⟨_, Try.func33, by kernel_rfl, rfl⟩
theorem ent34 : Ent Try.prog 34 := ⟨_, Try.func34, by kernel_rfl, rfl⟩
theorem ent35 : Ent Try.prog 35 := ⟨_, Try.func35, by kernel_rfl, rfl⟩
end Go.Proofs.Ythneocdjknhgdaa
/- package log: what is kept, its map; Put. -/
namespace Go.Proofs.Ythneocdjknhgdaa
open Go Go.Lift Go.Maps
set_option maxHeartbeats 4000000
set_option linter.unusedSimpArgs false
set_option linter.unusedVariables false
attribute [local irreducible] WK IL IP IG IW DW

structure EnL where
  r : Int
  s : Int
  b : List UInt8
abbrev strV (b : List UInt8) : Value := .string ⟨b.toArray⟩
def entC (e : EnL) : List IV := [.v (.int .u16 e.r), .v (.int .u32 e.s), .v (strV e.b)]
instance : Cells entC 3 := ⟨fun _ => rfl, fun _ => rfl, fun _ => rfl⟩
theorem entC_length (e : EnL) : (entC e).length = 3 := rfl
abbrev idI (r s : Int) : IV := .agg [.v (.int .u16 r), .v (.int .u32 s)]
def idV (r s : Int) : Value := .agg #[.int .u16 r, .int .u32 s]
theorem idV_inj {r s r' s' : Int} (h : idV r s = idV r' s') : r = r' ∧ s = s' := by
  unfold idV at h
  simpa using h
def ixl (l : List EnL) : List (Value × Value) := l.zipIdx.map fun x => (idV x.1.r x.1.s, .int .i64 x.2)
theorem ixl_snoc (l : List EnL) (e : EnL) : ixl (l ++ [e]) = ixl l ++ [(idV e.r e.s, .int .i64 l.length)] := by simp [ixl, List.zipIdx_append]
def nmL (e : EnL) (r s : Int) : Prop := e.r = r ∧ e.s = s
instance (e : EnL) (r s : Int) : Decidable (nmL e r s) := inferInstanceAs (Decidable (_ ∧ _))
def rok (r : Int) : Prop := 0 ≤ r ∧ r ≤ 65535
def sok (s : Int) : Prop := 0 ≤ s ∧ s ≤ 4294967295
def eok (e : EnL) : Prop := rok e.r ∧ sok e.s
def Dif (l : List EnL) : Prop := l.Pairwise fun a b => ¬ nmL a b.r b.s
def plcL (l : List EnL) (r s : Int) : Option Nat := l.findIdx? fun e => decide (nmL e r s)
theorem ixl_mem {l : List EnL} {k v : Value} : (k, v) ∈ ixl l ↔ ∃ i e, l[i]? = some e ∧ k = idV e.r e.s ∧ v = .int .i64 (i : Nat) := by
  unfold ixl
  simp only [List.mem_map, Prod.mk.injEq, Prod.exists, List.mem_zipIdx_iff_getElem?]
  constructor
  · rintro ⟨e, i, h1, h2, h3⟩
    exact ⟨i, e, by simpa using h1, h2.symm, h3.symm⟩
  · rintro ⟨i, e, h1, h2, h3⟩
    exact ⟨e, i, by simpa using h1, h2.symm, h3.symm⟩
theorem ixl_get {l : List EnL} (hd : Dif l) {r s : Int} : ∀ v, mget (ixl l) (idV r s) v → v = (plcL l r s).map fun i => .int .i64 (i : Nat)
  | none, h => by
    have : plcL l r s = none := by
      unfold plcL
      rw [List.findIdx?_eq_none_iff]
      intro x hx
      rw [decide_eq_false_iff_not]
      rintro ⟨rfl, rfl⟩
      obtain ⟨i, hi, e⟩ := List.getElem_of_mem hx
      exact h (idV x.r x.s, .int .i64 (i : Nat)) (ixl_mem.2 ⟨i, x, by rw [List.getElem?_eq_getElem hi, e], rfl, rfl⟩) rfl
    rw [this]; rfl
  | some v, h => by
    obtain ⟨i, e, h1, h2, rfl⟩ := ixl_mem.1 h
    obtain ⟨rfl, rfl⟩ := idV_inj h2
    have hi := (List.getElem?_eq_some_iff.1 h1).1
    have : plcL l e.r e.s = some i := by
      unfold plcL
      rw [List.findIdx?_eq_some_iff_getElem]
      refine ⟨hi, ?_, fun j hj => ?_⟩
      · obtain ⟨_, h1⟩ := List.getElem?_eq_some_iff.1 h1
        rw [h1]; simp [nmL]
      · have := List.pairwise_iff_getElem.1 hd j i (by omega) hi hj
        obtain ⟨_, h1⟩ := List.getElem?_eq_some_iff.1 h1
        rw [h1] at this
        simpa using this
    rw [this]; rfl
theorem ixl_no {l : List EnL} {r s : Int} (h : plcL l r s = none) : ∀ e ∈ ixl l, e.1 ≠ idV r s := by
  rintro ⟨k, v⟩ he hk
  obtain ⟨i, e, h1, h2, _⟩ := ixl_mem.1 he
  obtain ⟨rfl, rfl⟩ := idV_inj (h2.symm.trans hk)
  unfold plcL at h
  rw [List.findIdx?_eq_none_iff] at h
  have := h e (List.mem_of_getElem? h1)
  simp [nmL] at this
theorem key_ok {r s : Int} (hr : rok r) (hs : sok s) : (keyOf Try.prog 34 (idV r s)).isSome = true := by
  have h1 := hr
  have h2 := hs
  unfold rok at h1
  unfold sok at h2
  exact key2_ok Try.underlying34 Try.underlying23 Try.underlying24 (by kernel_rfl) (by kernel_rfl) (by kernel_rfl) rfl rfl (by decide) (by decide) (by kernel_rfl) (of_decide_eq_true (by kernel_rfl)) (WalkArith.wf_u16 ⟨by omega, by omega⟩) (WalkArith.wf_u32 ⟨by omega, by omega⟩)
theorem laidOut1 : laidOutB Try.prog = true := by kernel_rfl
theorem keyed : Keyed Try.prog 34 := Keyed.of_law (deep_law_laid laidOut1 (m := 3) (by omega) (of_decide_eq_true (by kernel_rfl)) (by kernel_rfl) (by kernel_rfl))
theorem zint (w : World) : (zeroValue 3).run Try.prog w = .ok (.int .i64 0) w := by kernel_rfl
theorem ixl_keys {l : List EnL} (h : ∀ e ∈ l, eok e) : ∀ e ∈ ixl l, (keyOf Try.prog 34 e.1).isSome = true := by
  rintro ⟨k, v⟩ he
  obtain ⟨i, e, h1, h2, _⟩ := ixl_mem.1 he
  have := h e (List.mem_of_getElem? h1)
  rw [show ((k, v) : Value × Value).1 = idV e.r e.s from h2]
  exact key_ok this.1 this.2
abbrev addL (l : List EnL) (r s : Int) (b : List UInt8) : List EnL := l ++ [⟨r, s, b⟩]
theorem addL_len (l : List EnL) (r s : Int) (b : List UInt8) : (addL l r s b).length = l.length + 1 := by simp
theorem addL_ixl (l : List EnL) (r s : Int) (b : List UInt8) : ixl (addL l r s b) = ixl l ++ [(idV r s, .int .i64 l.length)] := ixl_snoc _ _
theorem addL_encs (l : List EnL) (r s : Int) (b : List UInt8) : encs entC (addL l r s b) = encs entC l ++ [.v (.int .u16 r), .v (.int .u32 s), .v (strV b)] := (encs_snoc l _).symm
def mapC (l : List EnL) : IV := match l with
  | [] => .v (.map none)
  | _ => .omp 28 (ixl l).length (mcs (ixl l))
abbrev logO (l : List EnL) (z : Int) : IV := .obj [mapC l, .own 57 l.length true (encs entC l), .v (.int .i64 z)]
abbrev byI (b : List UInt8) : IV := .tr b.length (bcells b)
theorem put_some (l : List EnL) (z : Int) (r s : Int) (b : List UInt8) (hl : ∀ e ∈ l, eok e) (hd : Dif l) (hr : rok r) (hs : sok s) (hn : l ≠ []) (hp : plcL l r s = none) (h6 : l.length < 65536) (hb : b.length ≤ 100000) (hz : 0 ≤ z ∧ z ≤ 1000000000) :
    SCall Try.prog 6 [.obj [.omp 28 (ixl l).length (mcs (ixl l)), .own 57 l.length true (encs entC l), .v (.int .i64 z)], idI r s, byI b] (.v (.int .i64 0)) [.obj [.omp 28 (ixl (addL l r s b)).length (mcs (ixl (addL l r s b))), .own 57 (addL l r s b).length true (encs entC (addL l r s b)), .v (.int .i64 (z + b.length))], idI r s, byI b] := by
  rw [addL_ixl, addL_len, addL_encs]
  refine SCall.of_body' (TT := TT) (fun k => decide (k < 1)) [false, false, false] ttok Try.func6 rfl (Nat.le_of_ble_eq_true rfl) rfl fun fx hfx => WK.top ?_
  simp only [impl, imp, argT, List.append_nil, List.map_nil, List.map_cons, List.nil_append, List.cons_append, List.length_cons, List.length_nil, show Try.f6.ntmps = 68 from rfl, Nat.zero_add, Nat.reduceAdd]
  repeat' (first | refine WK.seq ?_ | refine WK.reg ?_ | refine IL.nil ?_ | refine WK.skip ?_ | refine WK.block ?_ | refine WK.drawnS (id := 3) mixed [2] [] [] [] (by decide +kernel) ?_ | refine WK.drawnS (id := 8) mixed [2] [10] [0, 0, 0, 0, 0, 0, 0, 0, 0, 0, 0] [0, 0, 0, 0, 0, 0, 0, 0, 0, 0, 0] (by decide +kernel) ?_ | refine WK.drawnS (id := 9) mixed [2] [9, 10, 13] [0, 0, 0, 0, 0, 0, 0, 0, 0, 0, 1, 2, 2, 2] [2, 1, 1, 1, 1, 0, 0, 0, 0, 0, 1, 2, 2, 2] (by decide +kernel) ?_ | refine DW.nil ?_ | (with_reducible refine IL.wr ?_ ?_; focus exact cW) | (with_reducible refine DW.wr ?_ ?_; focus exact cW) | refine IL.sg ttok ?_ | refine DW.re ttok ?_ | refine DW.rm ttok ?_ | refine DW.bk ttok ?_ | (refine WK.cn (fun h => ?_) (fun h => ?_); all_goals first | (simp only [reduceCtorEq] at h; done) | (simp only [hsA, hsD, hsE, ne_eq] at h; first | done | (exfalso; omega; done) | skip) | skip))
  refine IL.mnil Try.underlying28 ?_
  repeat' (first | refine WK.seq ?_ | refine WK.reg ?_ | refine IL.nil ?_ | refine WK.skip ?_ | refine WK.block ?_ | refine WK.drawnS (id := 3) mixed [2] [] [] [] (by decide +kernel) ?_ | refine WK.drawnS (id := 8) mixed [2] [10] [0, 0, 0, 0, 0, 0, 0, 0, 0, 0, 0] [0, 0, 0, 0, 0, 0, 0, 0, 0, 0, 0] (by decide +kernel) ?_ | refine WK.drawnS (id := 9) mixed [2] [9, 10, 13] [0, 0, 0, 0, 0, 0, 0, 0, 0, 0, 1, 2, 2, 2] [2, 1, 1, 1, 1, 0, 0, 0, 0, 0, 1, 2, 2, 2] (by decide +kernel) ?_ | refine DW.nil ?_ | (with_reducible refine IL.wr ?_ ?_; focus exact cW) | (with_reducible refine DW.wr ?_ ?_; focus exact cW) | refine IL.sg ttok ?_ | refine DW.re ttok ?_ | refine DW.rm ttok ?_ | refine DW.bk ttok ?_ | (refine WK.cn (fun h => ?_) (fun h => ?_); all_goals first | (simp only [reduceCtorEq] at h; done) | (simp only [hsA, hsD, hsE, ne_eq] at h; first | done | (exfalso; omega; done) | skip) | skip))
  refine DW.mlookN (key := idV r s) keyed Try.underlying28 zint (key_ok hr hs) (ixl_keys hl) (fun r' h => by rw [ixl_get hd r' h, hp]; rfl) ?_
  repeat' (first | refine WK.seq ?_ | refine WK.reg ?_ | refine IL.nil ?_ | refine WK.skip ?_ | refine WK.block ?_ | refine WK.drawnS (id := 3) mixed [2] [] [] [] (by decide +kernel) ?_ | refine WK.drawnS (id := 8) mixed [2] [10] [0, 0, 0, 0, 0, 0, 0, 0, 0, 0, 0] [0, 0, 0, 0, 0, 0, 0, 0, 0, 0, 0] (by decide +kernel) ?_ | refine WK.drawnS (id := 9) mixed [2] [9, 10, 13] [0, 0, 0, 0, 0, 0, 0, 0, 0, 0, 1, 2, 2, 2] [2, 1, 1, 1, 1, 0, 0, 0, 0, 0, 1, 2, 2, 2] (by decide +kernel) ?_ | refine DW.nil ?_ | (with_reducible refine IL.wr ?_ ?_; focus exact cW) | (with_reducible refine DW.wr ?_ ?_; focus exact cW) | refine IL.sg ttok ?_ | refine DW.re ttok ?_ | refine DW.rm ttok ?_ | refine DW.bk ttok ?_ | (refine WK.cn (fun h => ?_) (fun h => ?_); all_goals first | (simp only [reduceCtorEq] at h; done) | (simp only [hsA, hsD, hsE, ne_eq] at h; first | done | (exfalso; omega; done) | skip) | skip))
  refine DW.mput (key := idV r s) (val := .int .i64 l.length) keyed Try.underlying28 (key_ok hr hs) (ixl_keys hl) (ixl_no hp) ?_
  repeat' (first | refine WK.seq ?_ | refine WK.reg ?_ | refine IL.nil ?_ | refine WK.skip ?_ | refine WK.block ?_ | refine WK.drawnS (id := 3) mixed [2] [] [] [] (by decide +kernel) ?_ | refine WK.drawnS (id := 8) mixed [2] [10] [0, 0, 0, 0, 0, 0, 0, 0, 0, 0, 0] [0, 0, 0, 0, 0, 0, 0, 0, 0, 0, 0] (by decide +kernel) ?_ | refine WK.drawnS (id := 9) mixed [2] [9, 10, 13] [0, 0, 0, 0, 0, 0, 0, 0, 0, 0, 1, 2, 2, 2] [2, 1, 1, 1, 1, 0, 0, 0, 0, 0, 1, 2, 2, 2] (by decide +kernel) ?_ | refine DW.nil ?_ | (with_reducible refine IL.wr ?_ ?_; focus exact cW) | (with_reducible refine DW.wr ?_ ?_; focus exact cW) | refine IL.sg ttok ?_ | refine DW.re ttok ?_ | refine DW.rm ttok ?_ | refine DW.bk ttok ?_ | (refine WK.cn (fun h => ?_) (fun h => ?_); all_goals first | (simp only [reduceCtorEq] at h; done) | (simp only [hsA, hsD, hsE, ne_eq] at h; first | done | (exfalso; omega; done) | skip) | skip))
  all_goals try ((first | refine WK.ret ⟨.inr rfl, ?_⟩ | refine ⟨.inl rfl, ?_⟩ | refine ⟨.inl trivial, ?_⟩); refine Fin.o ?_ ?_ (h1 := by first | rfl | (simp only [go_sem, show Try.f6.results.toList = [.tmp 6] from rfl, reduceIte] <;> rfl)); rotate_left 1; (focus (first | rfl | skip)); all_goals try with_reducible rfl)
  all_goals skip
theorem put_none (z : Int) (r s : Int) (b : List UInt8) (hr : rok r) (hs : sok s) (hb : b.length ≤ 100000) (hz : 0 ≤ z ∧ z ≤ 1000000000) :
    SCall Try.prog 6 [.obj [.v (.map none), .own 57 0 true [], .v (.int .i64 z)], idI r s, byI b] (.v (.int .i64 0)) [.obj [.omp 28 (ixl [⟨r, s, b⟩]).length (mcs (ixl [⟨r, s, b⟩])), .own 57 1 true [.v (.int .u16 r), .v (.int .u32 s), .v (strV b)], .v (.int .i64 (z + b.length))], idI r s, byI b] := by
  rw [show ixl [⟨r, s, b⟩] = [] ++ [(idV r s, .int .i64 (0 : Nat))] from rfl]
  refine SCall.of_body' (TT := TT) (fun k => decide (k < 1)) [false, false, false] ttok Try.func6 rfl (Nat.le_of_ble_eq_true rfl) rfl fun fx hfx => WK.top ?_
  simp only [impl, imp, argT, List.append_nil, List.map_nil, List.map_cons, List.nil_append, List.cons_append, List.length_cons, List.length_nil, show Try.f6.ntmps = 68 from rfl, Nat.zero_add, Nat.reduceAdd]
  repeat' (first | refine WK.seq ?_ | refine WK.reg ?_ | refine IL.nil ?_ | refine WK.skip ?_ | refine WK.block ?_ | refine WK.drawnS (id := 3) mixed [1] [] [] [] (by decide +kernel) ?_ | refine WK.drawnS (id := 8) mixed [1] [10] [0, 0, 0, 0, 0, 0, 0, 0, 0, 0, 0] [0, 0, 0, 0, 0, 0, 0, 0, 0, 0, 0] (by decide +kernel) ?_ | refine WK.drawnS (id := 9) mixed [1] [9, 10, 13] [0, 0, 0, 0, 0, 0, 0, 0, 0, 0, 1, 2, 2, 2] [2, 1, 1, 1, 1, 0, 0, 0, 0, 0, 1, 2, 2, 2] (by decide +kernel) ?_ | refine DW.nil ?_ | (with_reducible refine IL.wr ?_ ?_; focus exact cW) | (with_reducible refine DW.wr ?_ ?_; focus exact cW) | refine IL.sg ttok ?_ | refine DW.re ttok ?_ | refine DW.rm ttok ?_ | refine DW.bk ttok ?_ | (refine WK.cn (fun h => ?_) (fun h => ?_); all_goals first | (simp only [reduceCtorEq] at h; done) | (simp only [hsA, hsD, hsE, ne_eq] at h; first | done | (exfalso; omega; done) | skip) | skip))
  refine IL.mnil0 Try.underlying28 ?_
  repeat' (first | refine WK.seq ?_ | refine WK.reg ?_ | refine IL.nil ?_ | refine WK.skip ?_ | refine WK.block ?_ | refine WK.drawnS (id := 3) mixed [1] [] [] [] (by decide +kernel) ?_ | refine WK.drawnS (id := 8) mixed [1] [10] [0, 0, 0, 0, 0, 0, 0, 0, 0, 0, 0] [0, 0, 0, 0, 0, 0, 0, 0, 0, 0, 0] (by decide +kernel) ?_ | refine WK.drawnS (id := 9) mixed [1] [9, 10, 13] [0, 0, 0, 0, 0, 0, 0, 0, 0, 0, 1, 2, 2, 2] [2, 1, 1, 1, 1, 0, 0, 0, 0, 0, 1, 2, 2, 2] (by decide +kernel) ?_ | refine DW.nil ?_ | (with_reducible refine IL.wr ?_ ?_; focus exact cW) | (with_reducible refine DW.wr ?_ ?_; focus exact cW) | refine IL.sg ttok ?_ | refine DW.re ttok ?_ | refine DW.rm ttok ?_ | refine DW.bk ttok ?_ | (refine WK.cn (fun h => ?_) (fun h => ?_); all_goals first | (simp only [reduceCtorEq] at h; done) | (simp only [hsA, hsD, hsE, ne_eq] at h; first | done | (exfalso; omega; done) | skip) | skip))
  refine IL.mmake ?_
  repeat' (first | refine WK.seq ?_ | refine WK.reg ?_ | refine IL.nil ?_ | refine WK.skip ?_ | refine WK.block ?_ | refine WK.drawnS (id := 3) mixed [1] [] [] [] (by decide +kernel) ?_ | refine WK.drawnS (id := 8) mixed [1] [10] [0, 0, 0, 0, 0, 0, 0, 0, 0, 0, 0] [0, 0, 0, 0, 0, 0, 0, 0, 0, 0, 0] (by decide +kernel) ?_ | refine WK.drawnS (id := 9) mixed [1] [9, 10, 13] [0, 0, 0, 0, 0, 0, 0, 0, 0, 0, 1, 2, 2, 2] [2, 1, 1, 1, 1, 0, 0, 0, 0, 0, 1, 2, 2, 2] (by decide +kernel) ?_ | refine DW.nil ?_ | (with_reducible refine IL.wr ?_ ?_; focus exact cW) | (with_reducible refine DW.wr ?_ ?_; focus exact cW) | refine IL.sg ttok ?_ | refine DW.re ttok ?_ | refine DW.rm ttok ?_ | refine DW.bk ttok ?_ | (refine WK.cn (fun h => ?_) (fun h => ?_); all_goals first | (simp only [reduceCtorEq] at h; done) | (simp only [hsA, hsD, hsE, ne_eq] at h; first | done | (exfalso; omega; done) | skip) | skip))
  refine DW.mlookN (l := []) (key := idV r s) keyed Try.underlying28 zint (key_ok hr hs) (fun e he => by cases he) (fun r' h => by cases r' with | none => rfl | some v => cases h) ?_
  repeat' (first | refine WK.seq ?_ | refine WK.reg ?_ | refine IL.nil ?_ | refine WK.skip ?_ | refine WK.block ?_ | refine WK.drawnS (id := 3) mixed [1] [] [] [] (by decide +kernel) ?_ | refine WK.drawnS (id := 8) mixed [1] [10] [0, 0, 0, 0, 0, 0, 0, 0, 0, 0, 0] [0, 0, 0, 0, 0, 0, 0, 0, 0, 0, 0] (by decide +kernel) ?_ | refine WK.drawnS (id := 9) mixed [1] [9, 10, 13] [0, 0, 0, 0, 0, 0, 0, 0, 0, 0, 1, 2, 2, 2] [2, 1, 1, 1, 1, 0, 0, 0, 0, 0, 1, 2, 2, 2] (by decide +kernel) ?_ | refine DW.nil ?_ | (with_reducible refine IL.wr ?_ ?_; focus exact cW) | (with_reducible refine DW.wr ?_ ?_; focus exact cW) | refine IL.sg ttok ?_ | refine DW.re ttok ?_ | refine DW.rm ttok ?_ | refine DW.bk ttok ?_ | (refine WK.cn (fun h => ?_) (fun h => ?_); all_goals first | (simp only [reduceCtorEq] at h; done) | (simp only [hsA, hsD, hsE, ne_eq] at h; first | done | (exfalso; omega; done) | skip) | skip))
  refine DW.mput (l := []) (key := idV r s) (val := .int .i64 (0 : Nat)) keyed Try.underlying28 (key_ok hr hs) (fun e he => by cases he) (fun e he => by cases he) ?_
  repeat' (first | refine WK.seq ?_ | refine WK.reg ?_ | refine IL.nil ?_ | refine WK.skip ?_ | refine WK.block ?_ | refine WK.drawnS (id := 3) mixed [1] [] [] [] (by decide +kernel) ?_ | refine WK.drawnS (id := 8) mixed [1] [10] [0, 0, 0, 0, 0, 0, 0, 0, 0, 0, 0] [0, 0, 0, 0, 0, 0, 0, 0, 0, 0, 0] (by decide +kernel) ?_ | refine WK.drawnS (id := 9) mixed [1] [9, 10, 13] [0, 0, 0, 0, 0, 0, 0, 0, 0, 0, 1, 2, 2, 2] [2, 1, 1, 1, 1, 0, 0, 0, 0, 0, 1, 2, 2, 2] (by decide +kernel) ?_ | refine DW.nil ?_ | (with_reducible refine IL.wr ?_ ?_; focus exact cW) | (with_reducible refine DW.wr ?_ ?_; focus exact cW) | refine IL.sg ttok ?_ | refine DW.re ttok ?_ | refine DW.rm ttok ?_ | refine DW.bk ttok ?_ | (refine WK.cn (fun h => ?_) (fun h => ?_); all_goals first | (simp only [reduceCtorEq] at h; done) | (simp only [hsA, hsD, hsE, ne_eq] at h; first | done | (exfalso; omega; done) | skip) | skip))
  all_goals try ((first | refine WK.ret ⟨.inr rfl, ?_⟩ | refine ⟨.inl rfl, ?_⟩ | refine ⟨.inl trivial, ?_⟩); refine Fin.o ?_ ?_ (h1 := by first | rfl | (simp only [go_sem, show Try.f6.results.toList = [.tmp 6] from rfl, reduceIte] <;> rfl)); rotate_left 1; (focus (first | rfl | skip)); all_goals try with_reducible rfl)
  all_goals skip
theorem put_twice (l : List EnL) (z : Int) (r s : Int) (b : List UInt8) (i : Nat) (hl : ∀ e ∈ l, eok e) (hd : Dif l) (hr : rok r) (hs : sok s) (hp : plcL l r s = some i) :
    SCall Try.prog 6 [.obj [.omp 28 (ixl l).length (mcs (ixl l)), .own 57 l.length true (encs entC l), .v (.int .i64 z)], idI r s, byI b] (.v (.int .i64 16)) [.obj [.omp 28 (ixl l).length (mcs (ixl l)), .own 57 l.length true (encs entC l), .v (.int .i64 z)], idI r s, byI b] := by
  refine SCall.of_body' (TT := TT) (fun k => decide (k < 1)) [false, false, false] ttok Try.func6 rfl (Nat.le_of_ble_eq_true rfl) rfl fun fx hfx => WK.top ?_
  simp only [impl, imp, argT, List.append_nil, List.map_nil, List.map_cons, List.nil_append, List.cons_append, List.length_cons, List.length_nil, show Try.f6.ntmps = 68 from rfl, Nat.zero_add, Nat.reduceAdd]
  repeat' (first | refine WK.seq ?_ | refine WK.reg ?_ | refine IL.nil ?_ | refine WK.skip ?_ | refine WK.block ?_ | refine WK.drawnS (id := 3) mixed [] [] [] [] (by decide +kernel) ?_ | refine WK.drawnS (id := 8) mixed [] [10] [0, 0, 0, 0, 0, 0, 0, 0, 0, 0, 0] [0, 0, 0, 0, 0, 0, 0, 0, 0, 0, 0] (by decide +kernel) ?_ | refine WK.drawnS (id := 9) mixed [] [9, 10, 13] [0, 0, 0, 0, 0, 0, 0, 0, 0, 0, 1, 2, 2, 2] [2, 1, 1, 1, 1, 0, 0, 0, 0, 0, 1, 2, 2, 2] (by decide +kernel) ?_ | refine DW.nil ?_ | (with_reducible refine IL.wr ?_ ?_; focus exact cW) | (with_reducible refine DW.wr ?_ ?_; focus exact cW) | refine IL.sg ttok ?_ | refine DW.re ttok ?_ | refine DW.rm ttok ?_ | refine DW.bk ttok ?_ | (refine WK.cn (fun h => ?_) (fun h => ?_); all_goals first | (simp only [reduceCtorEq] at h; done) | (simp only [hsA, hsD, hsE, ne_eq] at h; first | done | (exfalso; omega; done) | skip) | skip))
  refine IL.mnil Try.underlying28 ?_
  repeat' (first | refine WK.seq ?_ | refine WK.reg ?_ | refine IL.nil ?_ | refine WK.skip ?_ | refine WK.block ?_ | refine WK.drawnS (id := 3) mixed [] [] [] [] (by decide +kernel) ?_ | refine WK.drawnS (id := 8) mixed [] [10] [0, 0, 0, 0, 0, 0, 0, 0, 0, 0, 0] [0, 0, 0, 0, 0, 0, 0, 0, 0, 0, 0] (by decide +kernel) ?_ | refine WK.drawnS (id := 9) mixed [] [9, 10, 13] [0, 0, 0, 0, 0, 0, 0, 0, 0, 0, 1, 2, 2, 2] [2, 1, 1, 1, 1, 0, 0, 0, 0, 0, 1, 2, 2, 2] (by decide +kernel) ?_ | refine DW.nil ?_ | (with_reducible refine IL.wr ?_ ?_; focus exact cW) | (with_reducible refine DW.wr ?_ ?_; focus exact cW) | refine IL.sg ttok ?_ | refine DW.re ttok ?_ | refine DW.rm ttok ?_ | refine DW.bk ttok ?_ | (refine WK.cn (fun h => ?_) (fun h => ?_); all_goals first | (simp only [reduceCtorEq] at h; done) | (simp only [hsA, hsD, hsE, ne_eq] at h; first | done | (exfalso; omega; done) | skip) | skip))
  refine DW.mlookS (key := idV r s) (u := .int .i64 (i : Nat)) keyed Try.underlying28 zint (key_ok hr hs) (ixl_keys hl) (fun r' h => by rw [ixl_get hd r' h, hp]; rfl) ?_
  repeat' (first | refine WK.seq ?_ | refine WK.reg ?_ | refine IL.nil ?_ | refine WK.skip ?_ | refine WK.block ?_ | refine WK.drawnS (id := 3) mixed [] [] [] [] (by decide +kernel) ?_ | refine WK.drawnS (id := 8) mixed [] [10] [0, 0, 0, 0, 0, 0, 0, 0, 0, 0, 0] [0, 0, 0, 0, 0, 0, 0, 0, 0, 0, 0] (by decide +kernel) ?_ | refine WK.drawnS (id := 9) mixed [] [9, 10, 13] [0, 0, 0, 0, 0, 0, 0, 0, 0, 0, 1, 2, 2, 2] [2, 1, 1, 1, 1, 0, 0, 0, 0, 0, 1, 2, 2, 2] (by decide +kernel) ?_ | refine DW.nil ?_ | (with_reducible refine IL.wr ?_ ?_; focus exact cW) | (with_reducible refine DW.wr ?_ ?_; focus exact cW) | refine IL.sg ttok ?_ | refine DW.re ttok ?_ | refine DW.rm ttok ?_ | refine DW.bk ttok ?_ | (refine WK.cn (fun h => ?_) (fun h => ?_); all_goals first | (simp only [reduceCtorEq] at h; done) | (simp only [hsA, hsD, hsE, ne_eq] at h; first | done | (exfalso; omega; done) | skip) | skip))
  all_goals try ((first | refine WK.ret ⟨.inr rfl, ?_⟩ | refine ⟨.inl rfl, ?_⟩ | refine ⟨.inl trivial, ?_⟩); refine Fin.o ?_ ?_ (h1 := by first | rfl | (simp only [go_sem, show Try.f6.results.toList = [.tmp 6] from rfl, reduceIte] <;> rfl)); rotate_left 1; (focus (first | rfl | skip)); all_goals try with_reducible rfl)
  all_goals skip
theorem mapC_ne {l : List EnL} (h : l ≠ []) : mapC l = .omp 28 (ixl l).length (mcs (ixl l)) := by
  cases l with
  | nil => exact absurd rfl h
  | cons a l => rfl
theorem put_new (l : List EnL) (z : Int) (r s : Int) (b : List UInt8) (hl : ∀ e ∈ l, eok e) (hd : Dif l) (hr : rok r) (hs : sok s) (hp : plcL l r s = none) (h6 : l.length < 65536) (hb : b.length ≤ 100000) (hz : 0 ≤ z ∧ z ≤ 1000000000) :
    SCall Try.prog 6 [logO l z, idI r s, byI b] (.v (.int .i64 0)) [logO (addL l r s b) (z + b.length), idI r s, byI b] := by
  by_cases hn : l = []
  · subst hn
    exact put_none z r s b hr hs hb hz
  · have := put_some l z r s b hl hd hr hs hn hp h6 hb hz
    unfold logO
    rw [mapC_ne hn, mapC_ne (l := addL l r s b) (by simp)]
    exact this
end Go.Proofs.Ythneocdjknhgdaa
/- package log: Get, Len, Size; the reference's At. -/
namespace Go.Proofs.Ythneocdjknhgdaa
open Go Go.Lift Go.Maps
set_option maxHeartbeats 4000000
set_option linter.unusedSimpArgs false
set_option linter.unusedVariables false
attribute [local irreducible] WK IL IP IG IW DW

theorem len_call (l : List EnL) (z : Int) : SCall Try.prog 11 [logO l z] (.v (.int .i64 (l.length : Int))) [logO l z] := by
  unfold logO
  generalize hm : mapC l = M
  have : (∃ t n cs, M = .omp t n cs) ∨ M = .v (.map none) := by subst hm; cases l; exact .inr rfl; exact .inl ⟨_, _, _, rfl⟩
  clear hm
  rcases this with ⟨t, n, cs, rfl⟩ | rfl
  all_goals
    refine SCall.of_body' (TT := TT) (fun k => decide (k < 1)) [false] ttok Try.func11 rfl (Nat.le_of_ble_eq_true rfl) rfl fun fx hfx => WK.top ?_
    simp only [impl, imp, argT, List.append_nil, List.map_nil, List.map_cons, List.nil_append, List.cons_append, List.length_cons, List.length_nil, show Try.f11.ntmps = 8 from rfl, Nat.zero_add, Nat.reduceAdd]
    repeat' (first | refine WK.seq ?_ | refine WK.reg ?_ | refine IL.nil ?_ | (with_reducible refine IL.wr ?_ ?_; focus exact cW) | refine IL.sg ttok ?_)
    all_goals try ((first | refine WK.ret ⟨.inr rfl, ?_⟩ | refine ⟨.inl rfl, ?_⟩ | refine ⟨.inl trivial, ?_⟩); refine Fin.o ?_ ?_ (h1 := by first | rfl | (simp only [go_sem, show Try.f11.results.toList = [.tmp 2] from rfl, reduceIte] <;> rfl)); rotate_left 1; (focus (first | rfl | skip)); all_goals try with_reducible rfl)
    all_goals skip
theorem size_call (l : List EnL) (z : Int) : SCall Try.prog 12 [logO l z] (.v (.int .i64 z)) [logO l z] := by
  unfold logO
  generalize hm : mapC l = M
  have : (∃ t n cs, M = .omp t n cs) ∨ M = .v (.map none) := by subst hm; cases l; exact .inr rfl; exact .inl ⟨_, _, _, rfl⟩
  clear hm
  rcases this with ⟨t, n, cs, rfl⟩ | rfl
  all_goals
    refine SCall.of_body' (TT := TT) (fun k => decide (k < 1)) [false] ttok Try.func12 rfl (Nat.le_of_ble_eq_true rfl) rfl fun fx hfx => WK.top ?_
    simp only [impl, imp, argT, List.append_nil, List.map_nil, List.map_cons, List.nil_append, List.cons_append, List.length_cons, List.length_nil, show Try.f12.ntmps = 7 from rfl, Nat.zero_add, Nat.reduceAdd]
    repeat' (first | refine WK.seq ?_ | refine WK.reg ?_ | refine IL.nil ?_ | (with_reducible refine IL.wr ?_ ?_; focus exact cW) | refine IL.sg ttok ?_)
    all_goals try ((first | refine WK.ret ⟨.inr rfl, ?_⟩ | refine ⟨.inl rfl, ?_⟩ | refine ⟨.inl trivial, ?_⟩); refine Fin.o ?_ ?_ (h1 := by first | rfl | (simp only [go_sem, show Try.f12.results.toList = [.tmp 2] from rfl, reduceIte] <;> rfl)); rotate_left 1; (focus (first | rfl | skip)); all_goals try with_reducible rfl)
    all_goals skip
theorem get_nil (z : Int) (r s : Int) (hr : rok r) (hs : sok s) :
    SCall Try.prog 10 [.obj [.v (.map none), .own 57 0 true [], .v (.int .i64 z)], idI r s] (.tup [.own 5 0 true [], .v (.bool false)]) [.obj [.v (.map none), .own 57 0 true [], .v (.int .i64 z)], idI r s] := by
  refine SCall.of_body' (TT := TT) (fun k => decide (k < 1)) [false, false] ttok Try.func10 rfl (Nat.le_of_ble_eq_true rfl) rfl fun fx hfx => WK.top ?_
  simp only [impl, imp, argT, List.append_nil, List.map_nil, List.map_cons, List.nil_append, List.cons_append, List.length_cons, List.length_nil, show Try.f10.ntmps = 28 from rfl, Nat.zero_add, Nat.reduceAdd]
  repeat' (first | refine WK.seq ?_ | refine WK.reg ?_ | refine IL.nil ?_ | refine WK.skip ?_ | refine WK.drawnS (id := 1) mixed [] [] [] [] (by decide +kernel) ?_ | refine DW.nil ?_ | (with_reducible refine IL.wr ?_ ?_; focus exact cW) | (with_reducible refine DW.wr ?_ ?_; focus exact cW) | refine IL.sg ttok ?_ | refine DW.re ttok ?_ | refine DW.rm ttok ?_ | (refine WK.cn (fun h => ?_) (fun h => ?_); all_goals first | (simp only [reduceCtorEq] at h; done) | (simp only [hsA, hsD, hsE, ne_eq] at h; first | done | (exfalso; omega; done) | skip) | skip))
  refine DW.mlook0 (key := idV r s) keyed Try.underlying28 zint (key_ok hr hs) ?_
  repeat' (first | refine WK.seq ?_ | refine WK.reg ?_ | refine IL.nil ?_ | refine WK.skip ?_ | refine WK.drawnS (id := 1) mixed [] [] [] [] (by decide +kernel) ?_ | refine DW.nil ?_ | (with_reducible refine IL.wr ?_ ?_; focus exact cW) | (with_reducible refine DW.wr ?_ ?_; focus exact cW) | refine IL.sg ttok ?_ | refine DW.re ttok ?_ | refine DW.rm ttok ?_ | (refine WK.cn (fun h => ?_) (fun h => ?_); all_goals first | (simp only [reduceCtorEq] at h; done) | (simp only [hsA, hsD, hsE, ne_eq] at h; first | done | (exfalso; omega; done) | skip) | skip))
  all_goals try ((first | refine WK.ret ⟨.inr rfl, ?_⟩ | refine ⟨.inl rfl, ?_⟩ | refine ⟨.inl trivial, ?_⟩); refine Fin.o ?_ ?_ (h1 := by first | rfl | (simp only [go_sem, show Try.f10.results.toList = [.tmp 4, .tmp 5] from rfl, reduceIte] <;> rfl)); rotate_left 1; (focus (first | rfl | skip)); all_goals try with_reducible rfl)
  all_goals skip
theorem get_miss (l : List EnL) (z : Int) (r s : Int) (hl : ∀ e ∈ l, eok e) (hd : Dif l) (hr : rok r) (hs : sok s) (hp : plcL l r s = none) :
    SCall Try.prog 10 [.obj [.omp 28 (ixl l).length (mcs (ixl l)), .own 57 l.length true (encs entC l), .v (.int .i64 z)], idI r s] (.tup [.own 5 0 true [], .v (.bool false)]) [.obj [.omp 28 (ixl l).length (mcs (ixl l)), .own 57 l.length true (encs entC l), .v (.int .i64 z)], idI r s] := by
  refine SCall.of_body' (TT := TT) (fun k => decide (k < 1)) [false, false] ttok Try.func10 rfl (Nat.le_of_ble_eq_true rfl) rfl fun fx hfx => WK.top ?_
  simp only [impl, imp, argT, List.append_nil, List.map_nil, List.map_cons, List.nil_append, List.cons_append, List.length_cons, List.length_nil, show Try.f10.ntmps = 28 from rfl, Nat.zero_add, Nat.reduceAdd]
  repeat' (first | refine WK.seq ?_ | refine WK.reg ?_ | refine IL.nil ?_ | refine WK.skip ?_ | refine WK.drawnS (id := 1) mixed [] [] [] [] (by decide +kernel) ?_ | refine DW.nil ?_ | (with_reducible refine IL.wr ?_ ?_; focus exact cW) | (with_reducible refine DW.wr ?_ ?_; focus exact cW) | refine IL.sg ttok ?_ | refine DW.re ttok ?_ | refine DW.rm ttok ?_ | (refine WK.cn (fun h => ?_) (fun h => ?_); all_goals first | (simp only [reduceCtorEq] at h; done) | (simp only [hsA, hsD, hsE, ne_eq] at h; first | done | (exfalso; omega; done) | skip) | skip))
  refine DW.mlookN (key := idV r s) keyed Try.underlying28 zint (key_ok hr hs) (ixl_keys hl) (fun r' h => by rw [ixl_get hd r' h, hp]; rfl) ?_
  repeat' (first | refine WK.seq ?_ | refine WK.reg ?_ | refine IL.nil ?_ | refine WK.skip ?_ | refine WK.drawnS (id := 1) mixed [] [] [] [] (by decide +kernel) ?_ | refine DW.nil ?_ | (with_reducible refine IL.wr ?_ ?_; focus exact cW) | (with_reducible refine DW.wr ?_ ?_; focus exact cW) | refine IL.sg ttok ?_ | refine DW.re ttok ?_ | refine DW.rm ttok ?_ | (refine WK.cn (fun h => ?_) (fun h => ?_); all_goals first | (simp only [reduceCtorEq] at h; done) | (simp only [hsA, hsD, hsE, ne_eq] at h; first | done | (exfalso; omega; done) | skip) | skip))
  all_goals try ((first | refine WK.ret ⟨.inr rfl, ?_⟩ | refine ⟨.inl rfl, ?_⟩ | refine ⟨.inl trivial, ?_⟩); refine Fin.o ?_ ?_ (h1 := by first | rfl | (simp only [go_sem, show Try.f10.results.toList = [.tmp 4, .tmp 5] from rfl, reduceIte] <;> rfl)); rotate_left 1; (focus (first | rfl | skip)); all_goals try with_reducible rfl)
  all_goals skip
theorem plcL_lt {l : List EnL} {r s : Int} {i : Nat} (h : plcL l r s = some i) : i < l.length := by
  unfold plcL at h
  exact (List.findIdx?_eq_some_iff_getElem.1 h).1
theorem get_hit (l : List EnL) (z : Int) (r s : Int) (i : Nat) (e : EnL) (hl : ∀ e ∈ l, eok e) (hd : Dif l) (hr : rok r) (hs : sok s) (hp : plcL l r s = some i) (he : l[i]? = some e) (hb : e.b.length ≤ 100000) :
    SCall Try.prog 10 [.obj [.omp 28 (ixl l).length (mcs (ixl l)), .own 57 l.length true (encs entC l), .v (.int .i64 z)], idI r s] (.tup [byI e.b, .v (.bool true)]) [.obj [.omp 28 (ixl l).length (mcs (ixl l)), .own 57 l.length true (encs entC l), .v (.int .i64 z)], idI r s] := by
  have hil := plcL_lt hp
  have hle : i * 3 + 3 ≤ l.length * 3 := by omega
  have hat : ((encs entC l).drop (i * 3)).take 3 = entC e := encs_at entC_length he
  have h1 : (encs entC l)[i * 3 + 2]? = some (.v (strV e.b)) := by
    have := congrArg (fun l => l[2]?) hat
    simp only [List.getElem?_take, List.getElem?_drop] at this
    simpa [entC] using this
  have h2 : ((encs entC l).drop (i * 3 + 2)).take 1 = [.v (strV e.b)] := by
    have hlt := (List.getElem?_eq_some_iff.1 h1)
    obtain ⟨h3, h4⟩ := hlt
    rw [List.drop_eq_getElem_cons h3, h4]; rfl
  refine SCall.of_body' (TT := TT) (fun k => decide (k < 1)) [false, false] ttok Try.func10 rfl (Nat.le_of_ble_eq_true rfl) rfl fun fx hfx => WK.top ?_
  simp only [impl, imp, argT, List.append_nil, List.map_nil, List.map_cons, List.nil_append, List.cons_append, List.length_cons, List.length_nil, show Try.f10.ntmps = 28 from rfl, Nat.zero_add, Nat.reduceAdd]
  repeat' (first | refine WK.seq ?_ | refine WK.reg ?_ | refine IL.nil ?_ | refine WK.skip ?_ | refine WK.drawnS (id := 1) mixed [] [] [] [] (by decide +kernel) ?_ | refine DW.nil ?_ | (with_reducible refine IL.wr ?_ ?_; focus exact cW) | (with_reducible refine DW.wr ?_ ?_; focus exact cW) | refine IL.sg ttok ?_ | refine DW.re ttok ?_ | refine DW.rm ttok ?_ | (refine WK.cn (fun h => ?_) (fun h => ?_); all_goals first | (simp only [reduceCtorEq] at h; done) | (simp only [hsA, hsD, hsE, ne_eq] at h; first | done | (exfalso; omega; done) | skip) | skip))
  refine DW.mlookS (key := idV r s) (u := .int .i64 (i : Nat)) keyed Try.underlying28 zint (key_ok hr hs) (ixl_keys hl) (fun r' h => by rw [ixl_get hd r' h, hp]; rfl) ?_
  have FX := And.intro hle h1
  repeat' (first | refine WK.seq ?_ | refine WK.reg ?_ | refine IL.nil ?_ | refine WK.skip ?_ | refine WK.drawnS (id := 1) mixed [] [] [] [] (by decide +kernel) ?_ | refine DW.nil ?_ | (with_reducible refine IL.wr ?_ ?_; focus exact cW) | (with_reducible refine DW.wr ?_ ?_; focus exact cW) | refine IL.sgF ttok ?_ | refine DW.reF ttok ?_ | refine DW.rmF ttok ?_ | (refine WK.cn (fun h => ?_) (fun h => ?_); all_goals first | (simp only [reduceCtorEq] at h; done) | (simp only [hsA, hsD, hsE, ne_eq] at h; first | done | (exfalso; omega; done) | skip) | skip))
  all_goals try ((first | refine WK.ret ⟨.inr rfl, ?_⟩ | refine ⟨.inl rfl, ?_⟩ | refine ⟨.inl trivial, ?_⟩); refine Fin.o ?_ ?_ (h1 := by first | rfl | (simp only [go_sem, show Try.f10.results.toList = [.tmp 4, .tmp 5] from rfl, reduceIte] <;> rfl)); rotate_left 1; (focus (first | rfl | skip)); all_goals try with_reducible rfl)
  all_goals skip
end Go.Proofs.Ythneocdjknhgdaa
/- package log: the reference's At and Reply. -/
namespace Go.Proofs.Ythneocdjknhgdaa
open Go Go.Lift Go.Maps
set_option maxHeartbeats 4000000
set_option linter.unusedSimpArgs false
set_option linter.unusedVariables false
attribute [local irreducible] WK IL IP IG IW DW

def atL (l : List EnL) (r s : Int) : Int := match plcL l r s with
  | some i => (i : Nat)
  | none => -1
theorem plcL_at {l : List EnL} {r s : Int} {k : Nat} {x : EnL} (hx : l[k]? = some x) (h : ∀ y ∈ l.take k, ¬ nmL y r s) (hm : nmL x r s) : plcL l r s = some k := by
  unfold plcL
  obtain ⟨hk, e⟩ := List.getElem?_eq_some_iff.1 hx
  rw [List.findIdx?_eq_some_iff_getElem]
  refine ⟨hk, ?_, fun j hj => ?_⟩
  · rw [e]; simpa using hm
  · have := h l[j] (List.mem_take_iff_getElem.2 ⟨j, by omega, rfl⟩)
    simpa using this
theorem plcL_no {l : List EnL} {r s : Int} : plcL l r s = none ↔ ∀ y ∈ l, ¬ nmL y r s := by
  unfold plcL
  rw [List.findIdx?_eq_none_iff]
  simp
theorem at_call (l : List EnL) (r s : Int) (hn : l.length ≤ 100000) : SCall Try.prog 9 [.tr l.length (encs entC l), .v (.int .u16 r), .v (.int .u32 s)] (.v (.int .i64 (atL l r s))) [.tr l.length (encs entC l), .v (.int .u16 r), .v (.int .u32 s)] := by
  refine SCall.of_body' (TT := TT) (fun _ => false) [false, false, false] ttok Try.func9 rfl (Nat.le_of_ble_eq_true rfl) rfl fun fx hfx => WK.top ?_
  simp only [impl, imp, argT, List.append_nil, List.map_nil, List.nil_append, show Try.f9.ntmps = 31 from rfl, Nat.zero_add, Nat.reduceAdd]
  repeat' (first | refine WK.seq ?_ | refine WK.reg ?_ | refine IL.nil ?_ | refine WK.skip ?_ | refine WK.block ?_ | refine WK.exit_here ?_ | refine WK.e1 ?_ | refine WK.e2 ?_ | (with_reducible refine IL.wr ?_ ?_; focus exact cW) | refine IL.sg ttok ?_ | refine IL.nn ?_ | ((first | ((first | refine IL.ag (fun h => ?_) (fun h => ?_) | refine IL.ap (fun h => ?_) (fun h => ?_)); (fail_if_success (focus (simp only [reduceCtorEq] at h)))) | refine WK.cn (fun h => ?_) (fun h => ?_)); all_goals first | (simp only [reduceCtorEq] at h; done) | (simp only [hsA, hsD, hsE, ne_eq] at h; first | done | (exfalso; omega; done) | skip) | skip))
  refine WK.forS l.length (fun k => ∀ x ∈ l.take k, ¬ nmL x r s) (fun k => ⟨31, [(0, .tr l.length (encs entC l)), (1, .v (.int .u16 r)), (2, .v (.int .u32 s)), (7, .v (.int .i64 k))], []⟩) ⟨by simp, ?_⟩ (fun k hk ho => ?_) (fun ho => ?_)
  · (refine Weak.renS [] hfx rfl ?_ ?_ rfl <;> (simp only [go_sem, reduceIte, exists_eq_left', exists_eq_left, Blk.mk.injEq] <;> (try and_intros) <;> first | rfl | omega))
  · have hx : l[k]? = some l[k] := List.getElem?_eq_getElem hk
    have hat1 : (encs entC l)[k * 3 + 0]? = some (.v (.int .u16 l[k].r)) := encs_get entC_length hx (by decide)
    rw [Nat.add_zero] at hat1
    have hat2 : (encs entC l)[k * 3 + 1]? = some (.v (.int .u32 l[k].s)) := encs_get entC_length hx (by decide)
    have hle : k * 3 + 3 ≤ l.length * 3 := by omega
    have hne : encs entC l ≠ [] := encs_ne entC_length (by decide) hx
    have hpl := fun h => plcL_at (r := r) (s := s) hx ho h
    have htk : l.take (k + 1) = l.take k ++ [l[k]] := by rw [List.take_add_one, hx]; rfl
    have hno : ¬ nmL l[k] r s → ∀ x ∈ l.take (k + 1), ¬ nmL x r s := fun h y hy => by
      rw [htk] at hy
      rcases List.mem_append.1 hy with hy | hy
      · exact ho y hy
      · simp at hy; subst hy; exact h
    clear hx htk
    generalize l[k] = x at *
    by_cases hm : nmL x r s
    · rw [show atL l r s = (k : Nat) by unfold atL; rw [hpl hm]]
      obtain ⟨e1, e2⟩ := hm
      have hb1 : (x.r == r) = true := by simpa using e1
      have hb2 : (x.s == s) = true := by simpa using e2
      have FX := And.intro hat1 (And.intro hat2 (And.intro hle (And.intro hb1 hb2)))
      repeat' (first | refine WK.seq ?_ | refine WK.reg ?_ | refine IL.nil ?_ | refine WK.skip ?_ | refine WK.block ?_ | refine WK.exit_here ?_ | refine WK.e1 ?_ | refine WK.e2 ?_ | (with_reducible refine IL.wr ?_ ?_; focus exact cW) | refine IL.sgF ttok ?_ | refine IL.nn ?_ | ((first | ((first | refine IL.ag (fun h => ?_) (fun h => ?_) | refine IL.ap (fun h => ?_) (fun h => ?_)); (fail_if_success (focus (simp only [reduceCtorEq] at h)))) | refine WK.cn (fun h => ?_) (fun h => ?_)); all_goals first | (simp only [reduceCtorEq] at h; done) | (simp only [hsA, hsD, hsE, ne_eq] at h; first | done | (exfalso; omega; done) | skip) | skip))
      all_goals try ((first | refine WK.ret ⟨.inr rfl, ?_⟩ | refine ⟨.inl rfl, ?_⟩ | refine ⟨.inl trivial, ?_⟩); refine Fin.o ?_ ?_ (h1 := by first | rfl | (simp only [go_sem, show Try.f9.results.toList = [.tmp 6] from rfl, reduceIte] <;> rfl)); rotate_left 1; (focus (first | rfl | skip)); all_goals try with_reducible rfl)
      all_goals skip
    · have hno := hno hm
      have hb : ((x.r == r) && (x.s == s)) = false := by
        rw [Bool.and_eq_false_iff]
        by_cases h : x.r = r
        · exact .inr (beq_eq_false_iff_ne.2 fun h2 => hm ⟨h, h2⟩)
        · exact .inl (beq_eq_false_iff_ne.2 h)
      by_cases h : x.r = r
      · have hb1 : (x.r == r) = true := by simpa using h
        have hb2 : (x.s == s) = false := by rw [hb1] at hb; simpa using hb
        have FX := And.intro hat1 (And.intro hat2 (And.intro hle (And.intro hb1 hb2)))
        repeat' (first | refine WK.seq ?_ | refine WK.reg ?_ | refine IL.nil ?_ | refine WK.skip ?_ | refine WK.block ?_ | refine WK.exit_here ?_ | refine WK.e1 ?_ | refine WK.e2 ?_ | (with_reducible refine IL.wr ?_ ?_; focus exact cW) | refine IL.sgF ttok ?_ | refine IL.nn ?_ | ((first | ((first | refine IL.ag (fun h => ?_) (fun h => ?_) | refine IL.ap (fun h => ?_) (fun h => ?_)); (fail_if_success (focus (simp only [reduceCtorEq] at h)))) | refine WK.cn (fun h => ?_) (fun h => ?_)); all_goals first | (simp only [reduceCtorEq] at h; done) | (simp only [hsA, hsD, hsE, ne_eq] at h; first | done | (exfalso; omega; done) | skip) | skip))
        refine ⟨hno, ?_⟩
        (refine Weak.renS [] hfx rfl ?_ ?_ rfl <;> (simp only [go_sem, reduceIte, exists_eq_left', exists_eq_left, Blk.mk.injEq] <;> (try and_intros) <;> first | rfl | omega))
      · have hb1 : (x.r == r) = false := by simpa using h
        have FX := And.intro hat1 (And.intro hat2 (And.intro hle hb1))
        repeat' (first | refine WK.seq ?_ | refine WK.reg ?_ | refine IL.nil ?_ | refine WK.skip ?_ | refine WK.block ?_ | refine WK.exit_here ?_ | refine WK.e1 ?_ | refine WK.e2 ?_ | (with_reducible refine IL.wr ?_ ?_; focus exact cW) | refine IL.sgF ttok ?_ | refine IL.nn ?_ | ((first | ((first | refine IL.ag (fun h => ?_) (fun h => ?_) | refine IL.ap (fun h => ?_) (fun h => ?_)); (fail_if_success (focus (simp only [reduceCtorEq] at h)))) | refine WK.cn (fun h => ?_) (fun h => ?_)); all_goals first | (simp only [reduceCtorEq] at h; done) | (simp only [hsA, hsD, hsE, ne_eq] at h; first | done | (exfalso; omega; done) | skip) | skip))
        refine ⟨hno, ?_⟩
        (refine Weak.renS [] hfx rfl ?_ ?_ rfl <;> (simp only [go_sem, reduceIte, exists_eq_left', exists_eq_left, Blk.mk.injEq] <;> (try and_intros) <;> first | rfl | omega))
  · rw [List.take_length] at ho
    rw [show atL l r s = -1 by unfold atL; rw [plcL_no.2 ho]]
    repeat' (first | refine WK.seq ?_ | refine WK.reg ?_ | refine IL.nil ?_ | refine WK.skip ?_ | refine WK.block ?_ | refine WK.exit_here ?_ | refine WK.e1 ?_ | refine WK.e2 ?_ | (with_reducible refine IL.wr ?_ ?_; focus exact cW) | refine IL.sg ttok ?_ | refine IL.nn ?_ | ((first | ((first | refine IL.ag (fun h => ?_) (fun h => ?_) | refine IL.ap (fun h => ?_) (fun h => ?_)); (fail_if_success (focus (simp only [reduceCtorEq] at h)))) | refine WK.cn (fun h => ?_) (fun h => ?_)); all_goals first | (simp only [reduceCtorEq] at h; done) | (simp only [hsA, hsD, hsE, ne_eq] at h; first | done | (exfalso; omega; done) | skip) | skip))
    all_goals try ((first | refine WK.ret ⟨.inr rfl, ?_⟩ | refine ⟨.inl rfl, ?_⟩ | refine ⟨.inl trivial, ?_⟩); refine Fin.o ?_ ?_ (h1 := by first | rfl | (simp only [go_sem, show Try.f9.results.toList = [.tmp 6] from rfl, reduceIte] <;> rfl)); rotate_left 1; (focus (first | rfl | skip)); all_goals try with_reducible rfl)
    all_goals skip
end Go.Proofs.Ythneocdjknhgdaa
/- package log: Reply, whatever the sort does. -/
namespace Go.Proofs.Ythneocdjknhgdaa
open Go Go.Lift Go.Maps
set_option maxHeartbeats 4000000
set_option linter.unusedSimpArgs false
set_option linter.unusedVariables false
attribute [local irreducible] WK IL IP IG IW DW

def u32C (s : Int) : List IV := [.v (.int .u32 s)]
instance : Cells u32C 1 := ⟨fun _ => rfl, fun _ => rfl, fun _ => rfl⟩
theorem u32C_length (s : Int) : (u32C s).length = 1 := rfl
def byC (b : List UInt8) : List IV := [.tr b.length (bcells b)]
instance : CellsT byC 1 := ⟨fun _ => rfl, fun _ => rfl⟩
theorem byC_length (b : List UInt8) : (byC b).length = 1 := rfl
def gpB (R F T : Int) (e : EnL) : Bool := (e.r == R) && (decide (e.s ≥ F) && decide (e.s ≤ T))
def keptL (l : List EnL) (R F T : Int) : List Int := (l.filter (gpB R F T)).map (·.s)
abbrev gapI (R F T : Int) : IV := .agg [.v (.int .u16 R), .v (.int .u32 F), .v (.int .u32 T)]
theorem keptL_snoc (l : List EnL) (e : EnL) (R F T : Int) : keptL (l ++ [e]) R F T = if gpB R F T e = true then keptL l R F T ++ [e.s] else keptL l R F T := by
  unfold keptL
  rw [List.filter_append, List.map_append]
  by_cases h : gpB R F T e = true
  · rw [if_pos h]; simp [h]
  · rw [if_neg h]; simp [h]
theorem keptL_take_le (l : List EnL) (R F T : Int) (k : Nat) : (keptL (l.take k) R F T).length ≤ k := by
  unfold keptL
  rw [List.length_map]
  exact Nat.le_trans (List.length_filter_le _ _) (by rw [List.length_take]; omega)
theorem reply_some (l : List EnL) (z R F T most : Int) (K ss : List Int) (bs : List (List UInt8)) (hl : ∀ e ∈ l, eok e) (hd : Dif l) (hn : l.length ≤ 100000) (hR : rok R) (hK : keptL l R F T = K) (hK0 : 0 < K.length) (hsl : ss.length = K.length) (hbl : bs.length = K.length)
    (hso : SCall Try.prog 14 [.own 24 K.length true (encs u32C K)] (.tup []) [.own 24 K.length true (encs u32C ss)])
    (hss : ∀ (x : Nat) (s : Int), ss[x]? = some s → sok s ∧ ∃ i e, plcL l R s = some i ∧ l[i]? = some e ∧ e.b.length ≤ 100000 ∧ bs[x]? = some e.b) :
    SCall Try.prog 7 [.obj [.omp 28 (ixl l).length (mcs (ixl l)), .own 57 l.length true (encs entC l), .v (.int .i64 z)], gapI R F T, .v (.int .i64 most)] (.own 35 (min K.length most.toNat) false (encs byC (bs.take (min K.length most.toNat)))) [.obj [.omp 28 (ixl l).length (mcs (ixl l)), .own 57 l.length true (encs entC l), .v (.int .i64 z)], gapI R F T, .v (.int .i64 most)] := by
  have hKl : K.length ≤ l.length := by rw [← hK]; unfold keptL; rw [List.length_map]; exact List.length_filter_le _ _
  generalize hX : min K.length most.toNat = X
  have hXK : X ≤ K.length := by omega
  refine SCall.of_body' (TT := TT) (fun k => decide (k < 1)) [false, false, false] ttok Try.func7 rfl (Nat.le_of_ble_eq_true rfl) rfl fun fx hfx => WK.top ?_
  simp only [impl, imp, argT, List.append_nil, List.map_nil, List.map_cons, List.nil_append, List.cons_append, List.length_cons, List.length_nil, show Try.f7.ntmps = 84 from rfl, Nat.zero_add, Nat.reduceAdd]
  repeat' (first | refine WK.seq ?_ | refine WK.reg ?_ | refine IL.nil ?_ | refine WK.skip ?_ | refine WK.block ?_ | refine WK.exit_here ?_ | refine WK.e1 ?_ | refine WK.e2 ?_ | refine WK.drawnS (id := 12) mixed [] [9] [0, 0, 0, 0, 0, 0, 0, 0, 0, 0, 1, 1, 1, 1, 1] [0, 0, 0, 0, 0, 0, 0, 0, 0, 0, 1, 1, 1, 1, 1] (by decide +kernel) ?_ | refine DW.nil ?_ | (with_reducible refine IL.wr ?_ ?_; focus exact cW) | (with_reducible refine DW.wr ?_ ?_; focus exact cW) | refine IL.sg ttok ?_ | refine IL.nn ?_ | refine DW.re ttok ?_ | refine DW.rm ttok ?_ | refine DW.cS ttok ent10 [.own, .bor] false ?_ (hS := by exact hge) | refine IL.cS ttok ent14 [.own] false ?_ (hS := by exact hso) | ((first | ((first | refine IL.ag (fun h => ?_) (fun h => ?_) | refine IL.ap (fun h => ?_) (fun h => ?_)); (fail_if_success (focus (simp only [reduceCtorEq] at h)))) | refine WK.cn (fun h => ?_) (fun h => ?_)); all_goals first | (simp only [reduceCtorEq] at h; done) | (simp only [hsA, hsD, hsE, ne_eq] at h; first | done | (exfalso; omega; done) | skip) | skip))
  refine WK.gotoL (α := Nat) 0 (rest := _) rfl (fun x => X - x) (fun x => x ≤ X) (fun x => ⟨84, [(0, .ptr 0 0 0), (2, .v (.int .i64 most)), (4, .ptr 3 0 0), (7, .sl 4 0 0 K.length), (10, .sl 5 0 0 x)], [some ⟨false, 0, 1, false, [.mp 1 0, .sl 2 0 0 l.length, .v (.int .i64 z)], 0, false⟩, some ⟨false, 28, (ixl l).length, true, mcs (ixl l), 0, false⟩, some ⟨true, 57, l.length, true, encs entC l, 0, false⟩, some ⟨false, 0, 1, false, [.v (.int .u16 R), .v (.int .u32 F), .v (.int .u32 T)], 0, false⟩, some ⟨true, 24, K.length, true, encs u32C ss, 0, false⟩, some ⟨true, 35, x, false, encs byC (bs.take x), 0, false⟩]⟩) ?_ ?_
  · intro x hx
    rcases Nat.eq_or_lt_of_le hx with rfl | hx
    · by_cases hm : (x : Int) ≥ most
      · have hm1 : decide ((x : Int) ≥ most) = true := decide_eq_true hm
        have FX := hm1
        repeat' (first | refine WK.seq ?_ | refine WK.reg ?_ | refine IL.nil ?_ | refine WK.skip ?_ | refine WK.block ?_ | refine WK.exit_here ?_ | refine WK.e1 ?_ | refine WK.e2 ?_ | refine WK.drawnS (id := 12) mixed [] [9] [0, 0, 0, 0, 0, 0, 0, 0, 0, 0, 1, 1, 1, 1, 1] [0, 0, 0, 0, 0, 0, 0, 0, 0, 0, 1, 1, 1, 1, 1] (by decide +kernel) ?_ | refine DW.nil ?_ | (with_reducible refine IL.wr ?_ ?_; focus exact cW) | (with_reducible refine DW.wr ?_ ?_; focus exact cW) | refine IL.sgF ttok ?_ | refine IL.nn ?_ | refine DW.reF ttok ?_ | refine DW.rmF ttok ?_ | refine DW.cSF ttok ent10 [.own, .bor] false ?_ (hS := by exact hge) | refine IL.cSF ttok ent14 [.own] false ?_ (hS := by exact hso) | ((first | ((first | refine IL.ag (fun h => ?_) (fun h => ?_) | refine IL.ap (fun h => ?_) (fun h => ?_)); (fail_if_success (focus (simp only [reduceCtorEq] at h)))) | refine WK.cn (fun h => ?_) (fun h => ?_)); all_goals first | (simp only [reduceCtorEq] at h; done) | (simp only [hsA, hsD, hsE, ne_eq] at h; first | done | (exfalso; omega; done) | skip) | skip))
        all_goals try ((first | refine WK.ret ⟨.inr rfl, ?_⟩ | refine ⟨.inl rfl, ?_⟩ | refine ⟨.inl trivial, ?_⟩); refine Fin.o ?_ ?_ (h1 := by first | rfl | (simp only [go_sem, show Try.f7.results.toList = [.tmp 6] from rfl, reduceIte] <;> rfl)); rotate_left 1; (focus (first | rfl | skip)); all_goals try with_reducible rfl)
        all_goals skip
      · have hm1 : decide ((x : Int) ≥ most) = false := decide_eq_false hm
        have hm2 : ((x : Int) == (K.length : Int)) = true := by rw [beq_iff_eq]; omega
        have FX := And.intro hm1 hm2
        repeat' (first | refine WK.seq ?_ | refine WK.reg ?_ | refine IL.nil ?_ | refine WK.skip ?_ | refine WK.block ?_ | refine WK.exit_here ?_ | refine WK.e1 ?_ | refine WK.e2 ?_ | refine WK.drawnS (id := 12) mixed [] [9] [0, 0, 0, 0, 0, 0, 0, 0, 0, 0, 1, 1, 1, 1, 1] [0, 0, 0, 0, 0, 0, 0, 0, 0, 0, 1, 1, 1, 1, 1] (by decide +kernel) ?_ | refine DW.nil ?_ | (with_reducible refine IL.wr ?_ ?_; focus exact cW) | (with_reducible refine DW.wr ?_ ?_; focus exact cW) | refine IL.sgF ttok ?_ | refine IL.nn ?_ | refine DW.reF ttok ?_ | refine DW.rmF ttok ?_ | refine DW.cSF ttok ent10 [.own, .bor] false ?_ (hS := by exact hge) | refine IL.cSF ttok ent14 [.own] false ?_ (hS := by exact hso) | ((first | ((first | refine IL.ag (fun h => ?_) (fun h => ?_) | refine IL.ap (fun h => ?_) (fun h => ?_)); (fail_if_success (focus (simp only [reduceCtorEq] at h)))) | refine WK.cn (fun h => ?_) (fun h => ?_)); all_goals first | (simp only [reduceCtorEq] at h; done) | (simp only [hsA, hsD, hsE, ne_eq] at h; first | done | (exfalso; omega; done) | skip) | skip))
        all_goals try ((first | refine WK.ret ⟨.inr rfl, ?_⟩ | refine ⟨.inl rfl, ?_⟩ | refine ⟨.inl trivial, ?_⟩); refine Fin.o ?_ ?_ (h1 := by first | rfl | (simp only [go_sem, show Try.f7.results.toList = [.tmp 6] from rfl, reduceIte] <;> rfl)); rotate_left 1; (focus (first | rfl | skip)); all_goals try with_reducible rfl)
        all_goals skip
    · have hm1 : decide ((x : Int) ≥ most) = false := decide_eq_false (by omega)
      have hm2 : ((x : Int) == (K.length : Int)) = false := beq_eq_false_iff_ne.2 (by omega)
      have hx1 : ss[x]? = some ss[x] := List.getElem?_eq_getElem (by omega)
      obtain ⟨hs, i, e, he1, he2, he3, he4⟩ := hss x _ hx1
      have hge := get_hit l z R ss[x] i e hl hd hR hs he1 he2 he3
      have hat : (encs u32C ss)[x * 1 + 0]? = some (.v (.int .u32 ss[x])) := encs_get u32C_length hx1 (by decide)
      rw [Nat.add_zero, Nat.mul_one] at hat
      have htk : bs.take (x + 1) = bs.take x ++ [e.b] := by rw [List.take_add_one, he4]; rfl
      have hcs : (encs byC (bs.take x)).take x ++ [.tr e.b.length (bcells e.b)] = encs byC (bs.take (x + 1)) := by
        rw [List.take_of_length_le (by rw [encs_length byC_length, List.length_take]; omega), htk]
        exact encs_snoc (f := byC) _ e.b
      clear htk hx1 he1 he2
      generalize ss[x] = s at *
      have FX := And.intro hm1 (And.intro hm2 hat)
      repeat' (first | refine WK.seq ?_ | refine WK.reg ?_ | refine IL.nil ?_ | refine WK.skip ?_ | refine WK.block ?_ | refine WK.exit_here ?_ | refine WK.e1 ?_ | refine WK.e2 ?_ | refine WK.drawnS (id := 12) mixed [] [9] [0, 0, 0, 0, 0, 0, 0, 0, 0, 0, 1, 1, 1, 1, 1] [0, 0, 0, 0, 0, 0, 0, 0, 0, 0, 1, 1, 1, 1, 1] (by decide +kernel) ?_ | refine DW.nil ?_ | (with_reducible refine IL.wr ?_ ?_; focus exact cW) | (with_reducible refine DW.wr ?_ ?_; focus exact cW) | refine IL.sgF ttok ?_ | refine IL.nn ?_ | refine DW.reF ttok ?_ | refine DW.rmF ttok ?_ | refine DW.cSF ttok ent10 [.own, .bor] false ?_ (hS := by exact hge) | refine IL.cSF ttok ent14 [.own] false ?_ (hS := by exact hso) | ((first | ((first | refine IL.ag (fun h => ?_) (fun h => ?_) | refine IL.ap (fun h => ?_) (fun h => ?_)); (fail_if_success (focus (simp only [reduceCtorEq] at h)))) | refine WK.cn (fun h => ?_) (fun h => ?_)); all_goals first | (simp only [reduceCtorEq] at h; done) | (simp only [hsA, hsD, hsE, ne_eq] at h; first | done | (exfalso; omega; done) | skip) | skip))
      refine WK.goto ⟨rfl, x + 1, by omega, by omega, ?_⟩
      (refine Weak.renP 1 [0, 6, 7, 3, 4, 5] hfx (fun k h => of_decide_eq_true h) (fun k hk => by obtain rfl : k = 0 := (by omega); exact ⟨rfl, _, rfl, rfl⟩) rfl ?_ ?_ rfl <;> (simp only [go_sem, reduceIte, exists_eq_left', exists_eq_left, Blk.mk.injEq, hcs] <;> (try and_intros) <;> first | rfl | omega))
  · intro again
    repeat' (first | refine WK.seq ?_ | refine WK.reg ?_ | refine IL.nil ?_ | refine WK.skip ?_ | refine WK.block ?_ | refine WK.exit_here ?_ | refine WK.e1 ?_ | refine WK.e2 ?_ | refine WK.drawnS (id := 12) mixed [] [9] [0, 0, 0, 0, 0, 0, 0, 0, 0, 0, 1, 1, 1, 1, 1] [0, 0, 0, 0, 0, 0, 0, 0, 0, 0, 1, 1, 1, 1, 1] (by decide +kernel) ?_ | refine DW.nil ?_ | (with_reducible refine IL.wr ?_ ?_; focus exact cW) | (with_reducible refine DW.wr ?_ ?_; focus exact cW) | refine IL.sg ttok ?_ | refine IL.nn ?_ | refine DW.re ttok ?_ | refine DW.rm ttok ?_ | refine DW.cS ttok ent10 [.own, .bor] false ?_ (hS := by exact hge) | refine IL.cS ttok ent14 [.own] false ?_ (hS := by exact hso) | ((first | ((first | refine IL.ag (fun h => ?_) (fun h => ?_) | refine IL.ap (fun h => ?_) (fun h => ?_)); (fail_if_success (focus (simp only [reduceCtorEq] at h)))) | refine WK.cn (fun h => ?_) (fun h => ?_)); all_goals first | (simp only [reduceCtorEq] at h; done) | (simp only [hsA, hsD, hsE, ne_eq] at h; first | done | (exfalso; omega; done) | skip) | skip))
    refine WK.forS l.length (fun k => True) (fun k => ⟨84, [(0, .ptr 0 0 0), (2, .v (.int .i64 most)), (4, .ptr 3 0 0), (7, .sl 4 0 0 (keptL (l.take k) R F T).length), (16, .sl 2 0 0 l.length), (17, .v (.int .i64 l.length)), (18, .v (.int .i64 k))], [some ⟨false, 0, 1, false, [.mp 1 0, .sl 2 0 0 l.length, .v (.int .i64 z)], 0, false⟩, some ⟨false, 28, (ixl l).length, true, mcs (ixl l), 0, false⟩, some ⟨true, 57, l.length, true, encs entC l, 0, false⟩, some ⟨false, 0, 1, false, [.v (.int .u16 R), .v (.int .u32 F), .v (.int .u32 T)], 0, false⟩, some ⟨true, 24, (keptL (l.take k) R F T).length, true, encs u32C (keptL (l.take k) R F T), 0, false⟩]⟩) ⟨trivial, ?_⟩ (fun k hk ho => ?_) (fun ho => ?_)
    · rw [List.take_zero]
      (refine Weak.renP 1 [0, 1, 2, 3, 5] hfx (fun k h => of_decide_eq_true h) (fun k hk => by obtain rfl : k = 0 := (by omega); exact ⟨rfl, _, rfl, rfl⟩) rfl ?_ ?_ rfl <;> (simp only [go_sem, reduceIte, exists_eq_left', exists_eq_left, Blk.mk.injEq, show keptL [] R F T = [] from rfl, List.length_nil, encs_nil] <;> (try and_intros) <;> first | rfl | omega))
    · have hx : l[k]? = some l[k] := List.getElem?_eq_getElem hk
      have hle : k * 3 + 3 ≤ l.length * 3 := by omega
      have hat : ((encs entC l).drop (k * 3)).take 3 = [.v (.int .u16 l[k].r), .v (.int .u32 l[k].s), .v (strV l[k].b)] := encs_at entC_length hx
      have htk : l.take (k + 1) = l.take k ++ [l[k]] := by rw [List.take_add_one, hx]; rfl
      have hlk := keptL_take_le l R F T k
      rw [htk, keptL_snoc]
      clear hx htk
      generalize keptL (l.take k) R F T = Q at *
      generalize l[k] = e at *
      by_cases g1 : e.r = R
      · have hb1 : (e.r == R) = true := by simpa using g1
        by_cases g2 : e.s ≥ F
        · have hb2 : decide (e.s ≥ F) = true := decide_eq_true g2
          by_cases g3 : e.s ≤ T
          · have hb3 : decide (e.s ≤ T) = true := decide_eq_true g3
            rw [if_pos (by unfold gpB; rw [hb1, hb2, hb3]; rfl)]
            have hcs : (encs u32C Q).take Q.length ++ [.v (.int .u32 e.s)] = encs u32C (Q ++ [e.s]) := by
              rw [List.take_of_length_le (by rw [encs_length u32C_length]; omega)]
              exact encs_snoc (f := u32C) Q e.s
            have hln : (Q ++ [e.s]).length = Q.length + 1 := by simp
            generalize Q ++ [e.s] = Q' at *
            have FX := And.intro hat (And.intro hle (And.intro hb1 (And.intro hb2 hb3)))
            repeat' (first | refine WK.seq ?_ | refine WK.reg ?_ | refine IL.nil ?_ | refine WK.skip ?_ | refine WK.block ?_ | refine WK.exit_here ?_ | refine WK.e1 ?_ | refine WK.e2 ?_ | refine WK.drawnS (id := 12) mixed [] [9] [0, 0, 0, 0, 0, 0, 0, 0, 0, 0, 1, 1, 1, 1, 1] [0, 0, 0, 0, 0, 0, 0, 0, 0, 0, 1, 1, 1, 1, 1] (by decide +kernel) ?_ | refine DW.nil ?_ | (with_reducible refine IL.wr ?_ ?_; focus exact cW) | (with_reducible refine DW.wr ?_ ?_; focus exact cW) | refine IL.sgF ttok ?_ | refine IL.nn ?_ | refine DW.reF ttok ?_ | refine DW.rmF ttok ?_ | refine DW.cSF ttok ent10 [.own, .bor] false ?_ (hS := by exact hge) | refine IL.cSF ttok ent14 [.own] false ?_ (hS := by exact hso) | ((first | ((first | refine IL.ag (fun h => ?_) (fun h => ?_) | refine IL.ap (fun h => ?_) (fun h => ?_)); (fail_if_success (focus (simp only [reduceCtorEq] at h)))) | refine WK.cn (fun h => ?_) (fun h => ?_)); all_goals first | (simp only [reduceCtorEq] at h; done) | (simp only [hsA, hsD, hsE, ne_eq] at h; first | done | (exfalso; omega; done) | skip) | skip))
            refine ⟨trivial, ?_⟩
            (refine Weak.renP 1 [0, 1, 2, 3, 4] hfx (fun k h => of_decide_eq_true h) (fun k hk => by obtain rfl : k = 0 := (by omega); exact ⟨rfl, _, rfl, rfl⟩) rfl ?_ ?_ rfl <;> (simp only [go_sem, reduceIte, exists_eq_left', exists_eq_left, Blk.mk.injEq, hln, hcs] <;> (try and_intros) <;> first | rfl | omega))
          · have hb3 : decide (e.s ≤ T) = false := decide_eq_false g3
            rw [if_neg (by unfold gpB; rw [hb1, hb2, hb3]; decide)]
            have FX := And.intro hat (And.intro hle (And.intro hb1 (And.intro hb2 hb3)))
            repeat' (first | refine WK.seq ?_ | refine WK.reg ?_ | refine IL.nil ?_ | refine WK.skip ?_ | refine WK.block ?_ | refine WK.exit_here ?_ | refine WK.e1 ?_ | refine WK.e2 ?_ | refine WK.drawnS (id := 12) mixed [] [9] [0, 0, 0, 0, 0, 0, 0, 0, 0, 0, 1, 1, 1, 1, 1] [0, 0, 0, 0, 0, 0, 0, 0, 0, 0, 1, 1, 1, 1, 1] (by decide +kernel) ?_ | refine DW.nil ?_ | (with_reducible refine IL.wr ?_ ?_; focus exact cW) | (with_reducible refine DW.wr ?_ ?_; focus exact cW) | refine IL.sgF ttok ?_ | refine IL.nn ?_ | refine DW.reF ttok ?_ | refine DW.rmF ttok ?_ | refine DW.cSF ttok ent10 [.own, .bor] false ?_ (hS := by exact hge) | refine IL.cSF ttok ent14 [.own] false ?_ (hS := by exact hso) | ((first | ((first | refine IL.ag (fun h => ?_) (fun h => ?_) | refine IL.ap (fun h => ?_) (fun h => ?_)); (fail_if_success (focus (simp only [reduceCtorEq] at h)))) | refine WK.cn (fun h => ?_) (fun h => ?_)); all_goals first | (simp only [reduceCtorEq] at h; done) | (simp only [hsA, hsD, hsE, ne_eq] at h; first | done | (exfalso; omega; done) | skip) | skip))
            refine ⟨trivial, ?_⟩
            (refine Weak.renP 1 [0, 1, 2, 3, 4] hfx (fun k h => of_decide_eq_true h) (fun k hk => by obtain rfl : k = 0 := (by omega); exact ⟨rfl, _, rfl, rfl⟩) rfl ?_ ?_ rfl <;> (simp only [go_sem, reduceIte, exists_eq_left', exists_eq_left, Blk.mk.injEq] <;> (try and_intros) <;> first | rfl | omega))
        · have hb2 : decide (e.s ≥ F) = false := decide_eq_false g2
          rw [if_neg (by unfold gpB; rw [hb1, hb2]; simp)]
          have FX := And.intro hat (And.intro hle (And.intro hb1 hb2))
          repeat' (first | refine WK.seq ?_ | refine WK.reg ?_ | refine IL.nil ?_ | refine WK.skip ?_ | refine WK.block ?_ | refine WK.exit_here ?_ | refine WK.e1 ?_ | refine WK.e2 ?_ | refine WK.drawnS (id := 12) mixed [] [9] [0, 0, 0, 0, 0, 0, 0, 0, 0, 0, 1, 1, 1, 1, 1] [0, 0, 0, 0, 0, 0, 0, 0, 0, 0, 1, 1, 1, 1, 1] (by decide +kernel) ?_ | refine DW.nil ?_ | (with_reducible refine IL.wr ?_ ?_; focus exact cW) | (with_reducible refine DW.wr ?_ ?_; focus exact cW) | refine IL.sgF ttok ?_ | refine IL.nn ?_ | refine DW.reF ttok ?_ | refine DW.rmF ttok ?_ | refine DW.cSF ttok ent10 [.own, .bor] false ?_ (hS := by exact hge) | refine IL.cSF ttok ent14 [.own] false ?_ (hS := by exact hso) | ((first | ((first | refine IL.ag (fun h => ?_) (fun h => ?_) | refine IL.ap (fun h => ?_) (fun h => ?_)); (fail_if_success (focus (simp only [reduceCtorEq] at h)))) | refine WK.cn (fun h => ?_) (fun h => ?_)); all_goals first | (simp only [reduceCtorEq] at h; done) | (simp only [hsA, hsD, hsE, ne_eq] at h; first | done | (exfalso; omega; done) | skip) | skip))
          refine ⟨trivial, ?_⟩
          (refine Weak.renP 1 [0, 1, 2, 3, 4] hfx (fun k h => of_decide_eq_true h) (fun k hk => by obtain rfl : k = 0 := (by omega); exact ⟨rfl, _, rfl, rfl⟩) rfl ?_ ?_ rfl <;> (simp only [go_sem, reduceIte, exists_eq_left', exists_eq_left, Blk.mk.injEq] <;> (try and_intros) <;> first | rfl | omega))
      · have hb1 : (e.r == R) = false := by simpa using g1
        rw [if_neg (by unfold gpB; rw [hb1]; simp)]
        have FX := And.intro hat (And.intro hle hb1)
        repeat' (first | refine WK.seq ?_ | refine WK.reg ?_ | refine IL.nil ?_ | refine WK.skip ?_ | refine WK.block ?_ | refine WK.exit_here ?_ | refine WK.e1 ?_ | refine WK.e2 ?_ | refine WK.drawnS (id := 12) mixed [] [9] [0, 0, 0, 0, 0, 0, 0, 0, 0, 0, 1, 1, 1, 1, 1] [0, 0, 0, 0, 0, 0, 0, 0, 0, 0, 1, 1, 1, 1, 1] (by decide +kernel) ?_ | refine DW.nil ?_ | (with_reducible refine IL.wr ?_ ?_; focus exact cW) | (with_reducible refine DW.wr ?_ ?_; focus exact cW) | refine IL.sgF ttok ?_ | refine IL.nn ?_ | refine DW.reF ttok ?_ | refine DW.rmF ttok ?_ | refine DW.cSF ttok ent10 [.own, .bor] false ?_ (hS := by exact hge) | refine IL.cSF ttok ent14 [.own] false ?_ (hS := by exact hso) | ((first | ((first | refine IL.ag (fun h => ?_) (fun h => ?_) | refine IL.ap (fun h => ?_) (fun h => ?_)); (fail_if_success (focus (simp only [reduceCtorEq] at h)))) | refine WK.cn (fun h => ?_) (fun h => ?_)); all_goals first | (simp only [reduceCtorEq] at h; done) | (simp only [hsA, hsD, hsE, ne_eq] at h; first | done | (exfalso; omega; done) | skip) | skip))
        refine ⟨trivial, ?_⟩
        (refine Weak.renP 1 [0, 1, 2, 3, 4] hfx (fun k h => of_decide_eq_true h) (fun k hk => by obtain rfl : k = 0 := (by omega); exact ⟨rfl, _, rfl, rfl⟩) rfl ?_ ?_ rfl <;> (simp only [go_sem, reduceIte, exists_eq_left', exists_eq_left, Blk.mk.injEq] <;> (try and_intros) <;> first | rfl | omega))
    · rw [List.take_length, hK]
      have FX := hK0
      repeat' (first | refine WK.seq ?_ | refine WK.reg ?_ | refine IL.nil ?_ | refine WK.skip ?_ | refine WK.block ?_ | refine WK.exit_here ?_ | refine WK.e1 ?_ | refine WK.e2 ?_ | refine WK.drawnS (id := 12) mixed [] [9] [0, 0, 0, 0, 0, 0, 0, 0, 0, 0, 1, 1, 1, 1, 1] [0, 0, 0, 0, 0, 0, 0, 0, 0, 0, 1, 1, 1, 1, 1] (by decide +kernel) ?_ | refine DW.nil ?_ | (with_reducible refine IL.wr ?_ ?_; focus exact cW) | (with_reducible refine DW.wr ?_ ?_; focus exact cW) | refine IL.sgF ttok ?_ | refine IL.nn ?_ | refine DW.reF ttok ?_ | refine DW.rmF ttok ?_ | refine DW.cSF ttok ent10 [.own, .bor] false ?_ (hS := by exact hge) | refine IL.cSF ttok ent14 [.own] false ?_ (hS := by exact hso) | ((first | ((first | refine IL.ag (fun h => ?_) (fun h => ?_) | refine IL.ap (fun h => ?_) (fun h => ?_)); (fail_if_success (focus (simp only [reduceCtorEq] at h)))) | refine WK.cn (fun h => ?_) (fun h => ?_)); all_goals first | (simp only [reduceCtorEq] at h; done) | (simp only [hsA, hsD, hsE, ne_eq] at h; first | done | (exfalso; omega; done) | skip) | skip))
      refine WK.label ?_
      refine again _ 0 (Nat.zero_le _) ?_
      (refine Weak.renP 1 [0, 1, 2, 3, 4, 5] hfx (fun k h => of_decide_eq_true h) (fun k hk => by obtain rfl : k = 0 := (by omega); exact ⟨rfl, _, rfl, rfl⟩) rfl ?_ ?_ rfl <;> (simp only [go_sem, reduceIte, exists_eq_left', exists_eq_left, Blk.mk.injEq, List.take_zero, encs_nil] <;> (try and_intros) <;> first | rfl | omega))
theorem reply_none1 (l : List EnL) (z R F T most : Int) (n : Nat) (es : List (Value × Value)) (hn : l.length ≤ 100000) (hK : keptL l R F T = [])
    (hso : SCall Try.prog 14 [.tr 0 []] (.tup []) [.tr 0 []]) :
    SCall Try.prog 7 [.obj [.omp 28 n (mcs es), .own 57 l.length true (encs entC l), .v (.int .i64 z)], gapI R F T, .v (.int .i64 most)] (.own 35 0 false []) [.obj [.omp 28 n (mcs es), .own 57 l.length true (encs entC l), .v (.int .i64 z)], gapI R F T, .v (.int .i64 most)] := by
  have hno : ∀ e ∈ l, gpB R F T e = false := by
    unfold keptL at hK
    rw [List.map_eq_nil_iff, List.filter_eq_nil_iff] at hK
    exact fun e he => by simpa using hK e he
  refine SCall.of_body' (TT := TT) (fun k => decide (k < 1)) [false, false, false] ttok Try.func7 rfl (Nat.le_of_ble_eq_true rfl) rfl fun fx hfx => WK.top ?_
  simp only [impl, imp, argT, List.append_nil, List.map_nil, List.map_cons, List.nil_append, List.cons_append, List.length_cons, List.length_nil, show Try.f7.ntmps = 84 from rfl, Nat.zero_add, Nat.reduceAdd]
  repeat' (first | refine WK.seq ?_ | refine WK.reg ?_ | refine IL.nil ?_ | refine WK.skip ?_ | refine WK.block ?_ | refine WK.exit_here ?_ | refine WK.e1 ?_ | refine WK.e2 ?_ | refine WK.drawnS (id := 12) mixed [] [9] [0, 0, 0, 0, 0, 0, 0, 0, 0, 0, 1, 1, 1, 1, 1] [0, 0, 0, 0, 0, 0, 0, 0, 0, 0, 1, 1, 1, 1, 1] (by decide +kernel) ?_ | refine DW.nil ?_ | (with_reducible refine IL.wr ?_ ?_; focus exact cW) | (with_reducible refine DW.wr ?_ ?_; focus exact cW) | refine IL.sg ttok ?_ | refine IL.nn ?_ | refine DW.re ttok ?_ | refine DW.rm ttok ?_ | refine DW.cS ttok ent10 [.own, .bor] false ?_ (hS := by exact hge) | refine IL.cS ttok ent14 [.bor] true ?_ (hS := by exact hso) | ((first | ((first | refine IL.ag (fun h => ?_) (fun h => ?_) | refine IL.ap (fun h => ?_) (fun h => ?_)); (fail_if_success (focus (simp only [reduceCtorEq] at h)))) | refine WK.cn (fun h => ?_) (fun h => ?_)); all_goals first | (simp only [reduceCtorEq] at h; done) | (simp only [hsA, hsD, hsE, ne_eq] at h; first | done | (exfalso; omega; done) | skip) | skip))
  refine WK.gotoL (α := Unit) 0 (rest := _) rfl (fun x => 0) (fun x => True) (fun x => ⟨84, [(0, .ptr 0 0 0), (2, .v (.int .i64 most)), (4, .ptr 3 0 0), (7, .sl 4 0 0 0), (10, .sl 5 0 0 0)], [some ⟨false, 0, 1, false, [.mp 1 0, .sl 2 0 0 l.length, .v (.int .i64 z)], 0, false⟩, some ⟨false, 28, n, true, mcs es, 0, false⟩, some ⟨true, 57, l.length, true, encs entC l, 0, false⟩, some ⟨false, 0, 1, false, [.v (.int .u16 R), .v (.int .u32 F), .v (.int .u32 T)], 0, false⟩, some ⟨true, 24, 0, true, [], 0, false⟩, some ⟨true, 35, 0, false, [], 0, false⟩]⟩) ?_ ?_
  · intro x _
    by_cases hm : (0 : Int) ≥ most
    · have hm1 : decide ((0 : Int) ≥ most) = true := decide_eq_true hm
      have FX := hm1
      repeat' (first | refine WK.seq ?_ | refine WK.reg ?_ | refine IL.nil ?_ | refine WK.skip ?_ | refine WK.block ?_ | refine WK.exit_here ?_ | refine WK.e1 ?_ | refine WK.e2 ?_ | refine WK.drawnS (id := 12) mixed [] [9] [0, 0, 0, 0, 0, 0, 0, 0, 0, 0, 1, 1, 1, 1, 1] [0, 0, 0, 0, 0, 0, 0, 0, 0, 0, 1, 1, 1, 1, 1] (by decide +kernel) ?_ | refine DW.nil ?_ | (with_reducible refine IL.wr ?_ ?_; focus exact cW) | (with_reducible refine DW.wr ?_ ?_; focus exact cW) | refine IL.sgF ttok ?_ | refine IL.nn ?_ | refine DW.reF ttok ?_ | refine DW.rmF ttok ?_ | refine DW.cSF ttok ent10 [.own, .bor] false ?_ (hS := by exact hge) | refine IL.cSF ttok ent14 [.bor] true ?_ (hS := by exact hso) | ((first | ((first | refine IL.ag (fun h => ?_) (fun h => ?_) | refine IL.ap (fun h => ?_) (fun h => ?_)); (fail_if_success (focus (simp only [reduceCtorEq] at h)))) | refine WK.cn (fun h => ?_) (fun h => ?_)); all_goals first | (simp only [reduceCtorEq] at h; done) | (simp only [hsA, hsD, hsE, ne_eq] at h; first | done | (exfalso; omega; done) | skip) | skip))
      all_goals try ((first | refine WK.ret ⟨.inr rfl, ?_⟩ | refine ⟨.inl rfl, ?_⟩ | refine ⟨.inl trivial, ?_⟩); refine Fin.o ?_ ?_ (h1 := by first | rfl | (simp only [go_sem, show Try.f7.results.toList = [.tmp 6] from rfl, reduceIte] <;> rfl)); rotate_left 1; (focus (first | rfl | skip)); all_goals try with_reducible rfl)
      all_goals skip
    · have hm1 : decide ((0 : Int) ≥ most) = false := decide_eq_false hm
      have FX := hm1
      repeat' (first | refine WK.seq ?_ | refine WK.reg ?_ | refine IL.nil ?_ | refine WK.skip ?_ | refine WK.block ?_ | refine WK.exit_here ?_ | refine WK.e1 ?_ | refine WK.e2 ?_ | refine WK.drawnS (id := 12) mixed [] [9] [0, 0, 0, 0, 0, 0, 0, 0, 0, 0, 1, 1, 1, 1, 1] [0, 0, 0, 0, 0, 0, 0, 0, 0, 0, 1, 1, 1, 1, 1] (by decide +kernel) ?_ | refine DW.nil ?_ | (with_reducible refine IL.wr ?_ ?_; focus exact cW) | (with_reducible refine DW.wr ?_ ?_; focus exact cW) | refine IL.sgF ttok ?_ | refine IL.nn ?_ | refine DW.reF ttok ?_ | refine DW.rmF ttok ?_ | refine DW.cSF ttok ent10 [.own, .bor] false ?_ (hS := by exact hge) | refine IL.cSF ttok ent14 [.bor] true ?_ (hS := by exact hso) | ((first | ((first | refine IL.ag (fun h => ?_) (fun h => ?_) | refine IL.ap (fun h => ?_) (fun h => ?_)); (fail_if_success (focus (simp only [reduceCtorEq] at h)))) | refine WK.cn (fun h => ?_) (fun h => ?_)); all_goals first | (simp only [reduceCtorEq] at h; done) | (simp only [hsA, hsD, hsE, ne_eq] at h; first | done | (exfalso; omega; done) | skip) | skip))
      all_goals try ((first | refine WK.ret ⟨.inr rfl, ?_⟩ | refine ⟨.inl rfl, ?_⟩ | refine ⟨.inl trivial, ?_⟩); refine Fin.o ?_ ?_ (h1 := by first | rfl | (simp only [go_sem, show Try.f7.results.toList = [.tmp 6] from rfl, reduceIte] <;> rfl)); rotate_left 1; (focus (first | rfl | skip)); all_goals try with_reducible rfl)
      all_goals skip
  · intro again
    repeat' (first | refine WK.seq ?_ | refine WK.reg ?_ | refine IL.nil ?_ | refine WK.skip ?_ | refine WK.block ?_ | refine WK.exit_here ?_ | refine WK.e1 ?_ | refine WK.e2 ?_ | refine WK.drawnS (id := 12) mixed [] [9] [0, 0, 0, 0, 0, 0, 0, 0, 0, 0, 1, 1, 1, 1, 1] [0, 0, 0, 0, 0, 0, 0, 0, 0, 0, 1, 1, 1, 1, 1] (by decide +kernel) ?_ | refine DW.nil ?_ | (with_reducible refine IL.wr ?_ ?_; focus exact cW) | (with_reducible refine DW.wr ?_ ?_; focus exact cW) | refine IL.sg ttok ?_ | refine IL.nn ?_ | refine DW.re ttok ?_ | refine DW.rm ttok ?_ | refine DW.cS ttok ent10 [.own, .bor] false ?_ (hS := by exact hge) | refine IL.cS ttok ent14 [.bor] true ?_ (hS := by exact hso) | ((first | ((first | refine IL.ag (fun h => ?_) (fun h => ?_) | refine IL.ap (fun h => ?_) (fun h => ?_)); (fail_if_success (focus (simp only [reduceCtorEq] at h)))) | refine WK.cn (fun h => ?_) (fun h => ?_)); all_goals first | (simp only [reduceCtorEq] at h; done) | (simp only [hsA, hsD, hsE, ne_eq] at h; first | done | (exfalso; omega; done) | skip) | skip))
    refine WK.forS l.length (fun k => True) (fun k => ⟨84, [(0, .ptr 0 0 0), (2, .v (.int .i64 most)), (4, .ptr 3 0 0), (7, .sl 4 0 0 0), (16, .sl 2 0 0 l.length), (17, .v (.int .i64 l.length)), (18, .v (.int .i64 k))], [some ⟨false, 0, 1, false, [.mp 1 0, .sl 2 0 0 l.length, .v (.int .i64 z)], 0, false⟩, some ⟨false, 28, n, true, mcs es, 0, false⟩, some ⟨true, 57, l.length, true, encs entC l, 0, false⟩, some ⟨false, 0, 1, false, [.v (.int .u16 R), .v (.int .u32 F), .v (.int .u32 T)], 0, false⟩, some ⟨true, 24, 0, true, [], 0, false⟩]⟩) ⟨trivial, ?_⟩ (fun k hk ho => ?_) (fun ho => ?_)
    · (refine Weak.renP 1 [0, 1, 2, 3, 5] hfx (fun k h => of_decide_eq_true h) (fun k hk => by obtain rfl : k = 0 := (by omega); exact ⟨rfl, _, rfl, rfl⟩) rfl ?_ ?_ rfl <;> (simp only [go_sem, reduceIte, exists_eq_left', exists_eq_left, Blk.mk.injEq] <;> (try and_intros) <;> first | rfl | omega))
    · have hx : l[k]? = some l[k] := List.getElem?_eq_getElem hk
      have hle : k * 3 + 3 ≤ l.length * 3 := by omega
      have hat : ((encs entC l).drop (k * 3)).take 3 = [.v (.int .u16 l[k].r), .v (.int .u32 l[k].s), .v (strV l[k].b)] := encs_at entC_length hx
      have hg := hno _ (List.mem_of_getElem? hx)
      unfold gpB at hg
      clear hx hno
      generalize l[k] = e at *
      by_cases g1 : (e.r == R) = true
      · by_cases g2 : decide (e.s ≥ F) = true
        · have g3 : decide (e.s ≤ T) = false := by rw [g1, g2] at hg; simpa using hg
          have FX := And.intro hat (And.intro hle (And.intro g1 (And.intro g2 g3)))
          repeat' (first | refine WK.seq ?_ | refine WK.reg ?_ | refine IL.nil ?_ | refine WK.skip ?_ | refine WK.block ?_ | refine WK.exit_here ?_ | refine WK.e1 ?_ | refine WK.e2 ?_ | refine WK.drawnS (id := 12) mixed [] [9] [0, 0, 0, 0, 0, 0, 0, 0, 0, 0, 1, 1, 1, 1, 1] [0, 0, 0, 0, 0, 0, 0, 0, 0, 0, 1, 1, 1, 1, 1] (by decide +kernel) ?_ | refine DW.nil ?_ | (with_reducible refine IL.wr ?_ ?_; focus exact cW) | (with_reducible refine DW.wr ?_ ?_; focus exact cW) | refine IL.sgF ttok ?_ | refine IL.nn ?_ | refine DW.reF ttok ?_ | refine DW.rmF ttok ?_ | refine DW.cSF ttok ent10 [.own, .bor] false ?_ (hS := by exact hge) | refine IL.cSF ttok ent14 [.bor] true ?_ (hS := by exact hso) | ((first | ((first | refine IL.ag (fun h => ?_) (fun h => ?_) | refine IL.ap (fun h => ?_) (fun h => ?_)); (fail_if_success (focus (simp only [reduceCtorEq] at h)))) | refine WK.cn (fun h => ?_) (fun h => ?_)); all_goals first | (simp only [reduceCtorEq] at h; done) | (simp only [hsA, hsD, hsE, ne_eq] at h; first | done | (exfalso; omega; done) | skip) | skip))
          refine ⟨trivial, ?_⟩
          (refine Weak.renP 1 [0, 1, 2, 3, 4] hfx (fun k h => of_decide_eq_true h) (fun k hk => by obtain rfl : k = 0 := (by omega); exact ⟨rfl, _, rfl, rfl⟩) rfl ?_ ?_ rfl <;> (simp only [go_sem, reduceIte, exists_eq_left', exists_eq_left, Blk.mk.injEq] <;> (try and_intros) <;> first | rfl | omega))
        · have g2 : decide (e.s ≥ F) = false := by simpa using g2
          have FX := And.intro hat (And.intro hle (And.intro g1 g2))
          repeat' (first | refine WK.seq ?_ | refine WK.reg ?_ | refine IL.nil ?_ | refine WK.skip ?_ | refine WK.block ?_ | refine WK.exit_here ?_ | refine WK.e1 ?_ | refine WK.e2 ?_ | refine WK.drawnS (id := 12) mixed [] [9] [0, 0, 0, 0, 0, 0, 0, 0, 0, 0, 1, 1, 1, 1, 1] [0, 0, 0, 0, 0, 0, 0, 0, 0, 0, 1, 1, 1, 1, 1] (by decide +kernel) ?_ | refine DW.nil ?_ | (with_reducible refine IL.wr ?_ ?_; focus exact cW) | (with_reducible refine DW.wr ?_ ?_; focus exact cW) | refine IL.sgF ttok ?_ | refine IL.nn ?_ | refine DW.reF ttok ?_ | refine DW.rmF ttok ?_ | refine DW.cSF ttok ent10 [.own, .bor] false ?_ (hS := by exact hge) | refine IL.cSF ttok ent14 [.bor] true ?_ (hS := by exact hso) | ((first | ((first | refine IL.ag (fun h => ?_) (fun h => ?_) | refine IL.ap (fun h => ?_) (fun h => ?_)); (fail_if_success (focus (simp only [reduceCtorEq] at h)))) | refine WK.cn (fun h => ?_) (fun h => ?_)); all_goals first | (simp only [reduceCtorEq] at h; done) | (simp only [hsA, hsD, hsE, ne_eq] at h; first | done | (exfalso; omega; done) | skip) | skip))
          refine ⟨trivial, ?_⟩
          (refine Weak.renP 1 [0, 1, 2, 3, 4] hfx (fun k h => of_decide_eq_true h) (fun k hk => by obtain rfl : k = 0 := (by omega); exact ⟨rfl, _, rfl, rfl⟩) rfl ?_ ?_ rfl <;> (simp only [go_sem, reduceIte, exists_eq_left', exists_eq_left, Blk.mk.injEq] <;> (try and_intros) <;> first | rfl | omega))
      · have g1 : (e.r == R) = false := by simpa using g1
        have FX := And.intro hat (And.intro hle g1)
        repeat' (first | refine WK.seq ?_ | refine WK.reg ?_ | refine IL.nil ?_ | refine WK.skip ?_ | refine WK.block ?_ | refine WK.exit_here ?_ | refine WK.e1 ?_ | refine WK.e2 ?_ | refine WK.drawnS (id := 12) mixed [] [9] [0, 0, 0, 0, 0, 0, 0, 0, 0, 0, 1, 1, 1, 1, 1] [0, 0, 0, 0, 0, 0, 0, 0, 0, 0, 1, 1, 1, 1, 1] (by decide +kernel) ?_ | refine DW.nil ?_ | (with_reducible refine IL.wr ?_ ?_; focus exact cW) | (with_reducible refine DW.wr ?_ ?_; focus exact cW) | refine IL.sgF ttok ?_ | refine IL.nn ?_ | refine DW.reF ttok ?_ | refine DW.rmF ttok ?_ | refine DW.cSF ttok ent10 [.own, .bor] false ?_ (hS := by exact hge) | refine IL.cSF ttok ent14 [.bor] true ?_ (hS := by exact hso) | ((first | ((first | refine IL.ag (fun h => ?_) (fun h => ?_) | refine IL.ap (fun h => ?_) (fun h => ?_)); (fail_if_success (focus (simp only [reduceCtorEq] at h)))) | refine WK.cn (fun h => ?_) (fun h => ?_)); all_goals first | (simp only [reduceCtorEq] at h; done) | (simp only [hsA, hsD, hsE, ne_eq] at h; first | done | (exfalso; omega; done) | skip) | skip))
        refine ⟨trivial, ?_⟩
        (refine Weak.renP 1 [0, 1, 2, 3, 4] hfx (fun k h => of_decide_eq_true h) (fun k hk => by obtain rfl : k = 0 := (by omega); exact ⟨rfl, _, rfl, rfl⟩) rfl ?_ ?_ rfl <;> (simp only [go_sem, reduceIte, exists_eq_left', exists_eq_left, Blk.mk.injEq] <;> (try and_intros) <;> first | rfl | omega))
    · repeat' (first | refine WK.seq ?_ | refine WK.reg ?_ | refine IL.nil ?_ | refine WK.skip ?_ | refine WK.block ?_ | refine WK.exit_here ?_ | refine WK.e1 ?_ | refine WK.e2 ?_ | refine WK.drawnS (id := 12) mixed [] [9] [0, 0, 0, 0, 0, 0, 0, 0, 0, 0, 1, 1, 1, 1, 1] [0, 0, 0, 0, 0, 0, 0, 0, 0, 0, 1, 1, 1, 1, 1] (by decide +kernel) ?_ | refine DW.nil ?_ | (with_reducible refine IL.wr ?_ ?_; focus exact cW) | (with_reducible refine DW.wr ?_ ?_; focus exact cW) | refine IL.sg ttok ?_ | refine IL.nn ?_ | refine DW.re ttok ?_ | refine DW.rm ttok ?_ | refine DW.cS ttok ent10 [.own, .bor] false ?_ (hS := by exact hge) | refine IL.cS ttok ent14 [.bor] true ?_ (hS := by exact hso) | ((first | ((first | refine IL.ag (fun h => ?_) (fun h => ?_) | refine IL.ap (fun h => ?_) (fun h => ?_)); (fail_if_success (focus (simp only [reduceCtorEq] at h)))) | refine WK.cn (fun h => ?_) (fun h => ?_)); all_goals first | (simp only [reduceCtorEq] at h; done) | (simp only [hsA, hsD, hsE, ne_eq] at h; first | done | (exfalso; omega; done) | skip) | skip))
      refine WK.label ?_
      refine again _ () trivial ?_
      (refine Weak.renP 1 [0, 1, 2, 3, 4, 5] hfx (fun k h => of_decide_eq_true h) (fun k hk => by obtain rfl : k = 0 := (by omega); exact ⟨rfl, _, rfl, rfl⟩) rfl ?_ ?_ rfl <;> (simp only [go_sem, reduceIte, exists_eq_left', exists_eq_left, Blk.mk.injEq] <;> (try and_intros) <;> first | rfl | omega))
theorem reply_none0 (l : List EnL) (z R F T most : Int) (hn : l.length ≤ 100000) (hK : keptL l R F T = [])
    (hso : SCall Try.prog 14 [.tr 0 []] (.tup []) [.tr 0 []]) :
    SCall Try.prog 7 [.obj [.v (.map none), .own 57 l.length true (encs entC l), .v (.int .i64 z)], gapI R F T, .v (.int .i64 most)] (.own 35 0 false []) [.obj [.v (.map none), .own 57 l.length true (encs entC l), .v (.int .i64 z)], gapI R F T, .v (.int .i64 most)] := by
  have hno : ∀ e ∈ l, gpB R F T e = false := by
    unfold keptL at hK
    rw [List.map_eq_nil_iff, List.filter_eq_nil_iff] at hK
    exact fun e he => by simpa using hK e he
  refine SCall.of_body' (TT := TT) (fun k => decide (k < 1)) [false, false, false] ttok Try.func7 rfl (Nat.le_of_ble_eq_true rfl) rfl fun fx hfx => WK.top ?_
  simp only [impl, imp, argT, List.append_nil, List.map_nil, List.map_cons, List.nil_append, List.cons_append, List.length_cons, List.length_nil, show Try.f7.ntmps = 84 from rfl, Nat.zero_add, Nat.reduceAdd]
  repeat' (first | refine WK.seq ?_ | refine WK.reg ?_ | refine IL.nil ?_ | refine WK.skip ?_ | refine WK.block ?_ | refine WK.exit_here ?_ | refine WK.e1 ?_ | refine WK.e2 ?_ | refine WK.drawnS (id := 12) mixed [] [9] [0, 0, 0, 0, 0, 0, 0, 0, 0, 0, 1, 1, 1, 1, 1] [0, 0, 0, 0, 0, 0, 0, 0, 0, 0, 1, 1, 1, 1, 1] (by decide +kernel) ?_ | refine DW.nil ?_ | (with_reducible refine IL.wr ?_ ?_; focus exact cW) | (with_reducible refine DW.wr ?_ ?_; focus exact cW) | refine IL.sg ttok ?_ | refine IL.nn ?_ | refine DW.re ttok ?_ | refine DW.rm ttok ?_ | refine DW.cS ttok ent10 [.own, .bor] false ?_ (hS := by exact hge) | refine IL.cS ttok ent14 [.bor] true ?_ (hS := by exact hso) | ((first | ((first | refine IL.ag (fun h => ?_) (fun h => ?_) | refine IL.ap (fun h => ?_) (fun h => ?_)); (fail_if_success (focus (simp only [reduceCtorEq] at h)))) | refine WK.cn (fun h => ?_) (fun h => ?_)); all_goals first | (simp only [reduceCtorEq] at h; done) | (simp only [hsA, hsD, hsE, ne_eq] at h; first | done | (exfalso; omega; done) | skip) | skip))
  refine WK.gotoL (α := Unit) 0 (rest := _) rfl (fun x => 0) (fun x => True) (fun x => ⟨84, [(0, .ptr 0 0 0), (2, .v (.int .i64 most)), (4, .ptr 2 0 0), (7, .sl 3 0 0 0), (10, .sl 4 0 0 0)], [some ⟨false, 0, 1, false, [.v (.map none), .sl 1 0 0 l.length, .v (.int .i64 z)], 0, false⟩, some ⟨true, 57, l.length, true, encs entC l, 0, false⟩, some ⟨false, 0, 1, false, [.v (.int .u16 R), .v (.int .u32 F), .v (.int .u32 T)], 0, false⟩, some ⟨true, 24, 0, true, [], 0, false⟩, some ⟨true, 35, 0, false, [], 0, false⟩]⟩) ?_ ?_
  · intro x _
    by_cases hm : (0 : Int) ≥ most
    · have hm1 : decide ((0 : Int) ≥ most) = true := decide_eq_true hm
      have FX := hm1
      repeat' (first | refine WK.seq ?_ | refine WK.reg ?_ | refine IL.nil ?_ | refine WK.skip ?_ | refine WK.block ?_ | refine WK.exit_here ?_ | refine WK.e1 ?_ | refine WK.e2 ?_ | refine WK.drawnS (id := 12) mixed [] [9] [0, 0, 0, 0, 0, 0, 0, 0, 0, 0, 1, 1, 1, 1, 1] [0, 0, 0, 0, 0, 0, 0, 0, 0, 0, 1, 1, 1, 1, 1] (by decide +kernel) ?_ | refine DW.nil ?_ | (with_reducible refine IL.wr ?_ ?_; focus exact cW) | (with_reducible refine DW.wr ?_ ?_; focus exact cW) | refine IL.sgF ttok ?_ | refine IL.nn ?_ | refine DW.reF ttok ?_ | refine DW.rmF ttok ?_ | refine DW.cSF ttok ent10 [.own, .bor] false ?_ (hS := by exact hge) | refine IL.cSF ttok ent14 [.bor] true ?_ (hS := by exact hso) | ((first | ((first | refine IL.ag (fun h => ?_) (fun h => ?_) | refine IL.ap (fun h => ?_) (fun h => ?_)); (fail_if_success (focus (simp only [reduceCtorEq] at h)))) | refine WK.cn (fun h => ?_) (fun h => ?_)); all_goals first | (simp only [reduceCtorEq] at h; done) | (simp only [hsA, hsD, hsE, ne_eq] at h; first | done | (exfalso; omega; done) | skip) | skip))
      all_goals try ((first | refine WK.ret ⟨.inr rfl, ?_⟩ | refine ⟨.inl rfl, ?_⟩ | refine ⟨.inl trivial, ?_⟩); refine Fin.o ?_ ?_ (h1 := by first | rfl | (simp only [go_sem, show Try.f7.results.toList = [.tmp 6] from rfl, reduceIte] <;> rfl)); rotate_left 1; (focus (first | rfl | skip)); all_goals try with_reducible rfl)
      all_goals skip
    · have hm1 : decide ((0 : Int) ≥ most) = false := decide_eq_false hm
      have FX := hm1
      repeat' (first | refine WK.seq ?_ | refine WK.reg ?_ | refine IL.nil ?_ | refine WK.skip ?_ | refine WK.block ?_ | refine WK.exit_here ?_ | refine WK.e1 ?_ | refine WK.e2 ?_ | refine WK.drawnS (id := 12) mixed [] [9] [0, 0, 0, 0, 0, 0, 0, 0, 0, 0, 1, 1, 1, 1, 1] [0, 0, 0, 0, 0, 0, 0, 0, 0, 0, 1, 1, 1, 1, 1] (by decide +kernel) ?_ | refine DW.nil ?_ | (with_reducible refine IL.wr ?_ ?_; focus exact cW) | (with_reducible refine DW.wr ?_ ?_; focus exact cW) | refine IL.sgF ttok ?_ | refine IL.nn ?_ | refine DW.reF ttok ?_ | refine DW.rmF ttok ?_ | refine DW.cSF ttok ent10 [.own, .bor] false ?_ (hS := by exact hge) | refine IL.cSF ttok ent14 [.bor] true ?_ (hS := by exact hso) | ((first | ((first | refine IL.ag (fun h => ?_) (fun h => ?_) | refine IL.ap (fun h => ?_) (fun h => ?_)); (fail_if_success (focus (simp only [reduceCtorEq] at h)))) | refine WK.cn (fun h => ?_) (fun h => ?_)); all_goals first | (simp only [reduceCtorEq] at h; done) | (simp only [hsA, hsD, hsE, ne_eq] at h; first | done | (exfalso; omega; done) | skip) | skip))
      all_goals try ((first | refine WK.ret ⟨.inr rfl, ?_⟩ | refine ⟨.inl rfl, ?_⟩ | refine ⟨.inl trivial, ?_⟩); refine Fin.o ?_ ?_ (h1 := by first | rfl | (simp only [go_sem, show Try.f7.results.toList = [.tmp 6] from rfl, reduceIte] <;> rfl)); rotate_left 1; (focus (first | rfl | skip)); all_goals try with_reducible rfl)
      all_goals skip
  · intro again
    repeat' (first | refine WK.seq ?_ | refine WK.reg ?_ | refine IL.nil ?_ | refine WK.skip ?_ | refine WK.block ?_ | refine WK.exit_here ?_ | refine WK.e1 ?_ | refine WK.e2 ?_ | refine WK.drawnS (id := 12) mixed [] [9] [0, 0, 0, 0, 0, 0, 0, 0, 0, 0, 1, 1, 1, 1, 1] [0, 0, 0, 0, 0, 0, 0, 0, 0, 0, 1, 1, 1, 1, 1] (by decide +kernel) ?_ | refine DW.nil ?_ | (with_reducible refine IL.wr ?_ ?_; focus exact cW) | (with_reducible refine DW.wr ?_ ?_; focus exact cW) | refine IL.sg ttok ?_ | refine IL.nn ?_ | refine DW.re ttok ?_ | refine DW.rm ttok ?_ | refine DW.cS ttok ent10 [.own, .bor] false ?_ (hS := by exact hge) | refine IL.cS ttok ent14 [.bor] true ?_ (hS := by exact hso) | ((first | ((first | refine IL.ag (fun h => ?_) (fun h => ?_) | refine IL.ap (fun h => ?_) (fun h => ?_)); (fail_if_success (focus (simp only [reduceCtorEq] at h)))) | refine WK.cn (fun h => ?_) (fun h => ?_)); all_goals first | (simp only [reduceCtorEq] at h; done) | (simp only [hsA, hsD, hsE, ne_eq] at h; first | done | (exfalso; omega; done) | skip) | skip))
    refine WK.forS l.length (fun k => True) (fun k => ⟨84, [(0, .ptr 0 0 0), (2, .v (.int .i64 most)), (4, .ptr 2 0 0), (7, .sl 3 0 0 0), (16, .sl 1 0 0 l.length), (17, .v (.int .i64 l.length)), (18, .v (.int .i64 k))], [some ⟨false, 0, 1, false, [.v (.map none), .sl 1 0 0 l.length, .v (.int .i64 z)], 0, false⟩, some ⟨true, 57, l.length, true, encs entC l, 0, false⟩, some ⟨false, 0, 1, false, [.v (.int .u16 R), .v (.int .u32 F), .v (.int .u32 T)], 0, false⟩, some ⟨true, 24, 0, true, [], 0, false⟩]⟩) ⟨trivial, ?_⟩ (fun k hk ho => ?_) (fun ho => ?_)
    · (refine Weak.renP 1 [0, 1, 2, 4] hfx (fun k h => of_decide_eq_true h) (fun k hk => by obtain rfl : k = 0 := (by omega); exact ⟨rfl, _, rfl, rfl⟩) rfl ?_ ?_ rfl <;> (simp only [go_sem, reduceIte, exists_eq_left', exists_eq_left, Blk.mk.injEq] <;> (try and_intros) <;> first | rfl | omega))
    · have hx : l[k]? = some l[k] := List.getElem?_eq_getElem hk
      have hle : k * 3 + 3 ≤ l.length * 3 := by omega
      have hat : ((encs entC l).drop (k * 3)).take 3 = [.v (.int .u16 l[k].r), .v (.int .u32 l[k].s), .v (strV l[k].b)] := encs_at entC_length hx
      have hg := hno _ (List.mem_of_getElem? hx)
      unfold gpB at hg
      clear hx hno
      generalize l[k] = e at *
      by_cases g1 : (e.r == R) = true
      · by_cases g2 : decide (e.s ≥ F) = true
        · have g3 : decide (e.s ≤ T) = false := by rw [g1, g2] at hg; simpa using hg
          have FX := And.intro hat (And.intro hle (And.intro g1 (And.intro g2 g3)))
          repeat' (first | refine WK.seq ?_ | refine WK.reg ?_ | refine IL.nil ?_ | refine WK.skip ?_ | refine WK.block ?_ | refine WK.exit_here ?_ | refine WK.e1 ?_ | refine WK.e2 ?_ | refine WK.drawnS (id := 12) mixed [] [9] [0, 0, 0, 0, 0, 0, 0, 0, 0, 0, 1, 1, 1, 1, 1] [0, 0, 0, 0, 0, 0, 0, 0, 0, 0, 1, 1, 1, 1, 1] (by decide +kernel) ?_ | refine DW.nil ?_ | (with_reducible refine IL.wr ?_ ?_; focus exact cW) | (with_reducible refine DW.wr ?_ ?_; focus exact cW) | refine IL.sgF ttok ?_ | refine IL.nn ?_ | refine DW.reF ttok ?_ | refine DW.rmF ttok ?_ | refine DW.cSF ttok ent10 [.own, .bor] false ?_ (hS := by exact hge) | refine IL.cSF ttok ent14 [.bor] true ?_ (hS := by exact hso) | ((first | ((first | refine IL.ag (fun h => ?_) (fun h => ?_) | refine IL.ap (fun h => ?_) (fun h => ?_)); (fail_if_success (focus (simp only [reduceCtorEq] at h)))) | refine WK.cn (fun h => ?_) (fun h => ?_)); all_goals first | (simp only [reduceCtorEq] at h; done) | (simp only [hsA, hsD, hsE, ne_eq] at h; first | done | (exfalso; omega; done) | skip) | skip))
          refine ⟨trivial, ?_⟩
          (refine Weak.renP 1 [0, 1, 2, 3] hfx (fun k h => of_decide_eq_true h) (fun k hk => by obtain rfl : k = 0 := (by omega); exact ⟨rfl, _, rfl, rfl⟩) rfl ?_ ?_ rfl <;> (simp only [go_sem, reduceIte, exists_eq_left', exists_eq_left, Blk.mk.injEq] <;> (try and_intros) <;> first | rfl | omega))
        · have g2 : decide (e.s ≥ F) = false := by simpa using g2
          have FX := And.intro hat (And.intro hle (And.intro g1 g2))
          repeat' (first | refine WK.seq ?_ | refine WK.reg ?_ | refine IL.nil ?_ | refine WK.skip ?_ | refine WK.block ?_ | refine WK.exit_here ?_ | refine WK.e1 ?_ | refine WK.e2 ?_ | refine WK.drawnS (id := 12) mixed [] [9] [0, 0, 0, 0, 0, 0, 0, 0, 0, 0, 1, 1, 1, 1, 1] [0, 0, 0, 0, 0, 0, 0, 0, 0, 0, 1, 1, 1, 1, 1] (by decide +kernel) ?_ | refine DW.nil ?_ | (with_reducible refine IL.wr ?_ ?_; focus exact cW) | (with_reducible refine DW.wr ?_ ?_; focus exact cW) | refine IL.sgF ttok ?_ | refine IL.nn ?_ | refine DW.reF ttok ?_ | refine DW.rmF ttok ?_ | refine DW.cSF ttok ent10 [.own, .bor] false ?_ (hS := by exact hge) | refine IL.cSF ttok ent14 [.bor] true ?_ (hS := by exact hso) | ((first | ((first | refine IL.ag (fun h => ?_) (fun h => ?_) | refine IL.ap (fun h => ?_) (fun h => ?_)); (fail_if_success (focus (simp only [reduceCtorEq] at h)))) | refine WK.cn (fun h => ?_) (fun h => ?_)); all_goals first | (simp only [reduceCtorEq] at h; done) | (simp only [hsA, hsD, hsE, ne_eq] at h; first | done | (exfalso; omega; done) | skip) | skip))
          refine ⟨trivial, ?_⟩
          (refine Weak.renP 1 [0, 1, 2, 3] hfx (fun k h => of_decide_eq_true h) (fun k hk => by obtain rfl : k = 0 := (by omega); exact ⟨rfl, _, rfl, rfl⟩) rfl ?_ ?_ rfl <;> (simp only [go_sem, reduceIte, exists_eq_left', exists_eq_left, Blk.mk.injEq] <;> (try and_intros) <;> first | rfl | omega))
      · have g1 : (e.r == R) = false := by simpa using g1
        have FX := And.intro hat (And.intro hle g1)
        repeat' (first | refine WK.seq ?_ | refine WK.reg ?_ | refine IL.nil ?_ | refine WK.skip ?_ | refine WK.block ?_ | refine WK.exit_here ?_ | refine WK.e1 ?_ | refine WK.e2 ?_ | refine WK.drawnS (id := 12) mixed [] [9] [0, 0, 0, 0, 0, 0, 0, 0, 0, 0, 1, 1, 1, 1, 1] [0, 0, 0, 0, 0, 0, 0, 0, 0, 0, 1, 1, 1, 1, 1] (by decide +kernel) ?_ | refine DW.nil ?_ | (with_reducible refine IL.wr ?_ ?_; focus exact cW) | (with_reducible refine DW.wr ?_ ?_; focus exact cW) | refine IL.sgF ttok ?_ | refine IL.nn ?_ | refine DW.reF ttok ?_ | refine DW.rmF ttok ?_ | refine DW.cSF ttok ent10 [.own, .bor] false ?_ (hS := by exact hge) | refine IL.cSF ttok ent14 [.bor] true ?_ (hS := by exact hso) | ((first | ((first | refine IL.ag (fun h => ?_) (fun h => ?_) | refine IL.ap (fun h => ?_) (fun h => ?_)); (fail_if_success (focus (simp only [reduceCtorEq] at h)))) | refine WK.cn (fun h => ?_) (fun h => ?_)); all_goals first | (simp only [reduceCtorEq] at h; done) | (simp only [hsA, hsD, hsE, ne_eq] at h; first | done | (exfalso; omega; done) | skip) | skip))
        refine ⟨trivial, ?_⟩
        (refine Weak.renP 1 [0, 1, 2, 3] hfx (fun k h => of_decide_eq_true h) (fun k hk => by obtain rfl : k = 0 := (by omega); exact ⟨rfl, _, rfl, rfl⟩) rfl ?_ ?_ rfl <;> (simp only [go_sem, reduceIte, exists_eq_left', exists_eq_left, Blk.mk.injEq] <;> (try and_intros) <;> first | rfl | omega))
    · repeat' (first | refine WK.seq ?_ | refine WK.reg ?_ | refine IL.nil ?_ | refine WK.skip ?_ | refine WK.block ?_ | refine WK.exit_here ?_ | refine WK.e1 ?_ | refine WK.e2 ?_ | refine WK.drawnS (id := 12) mixed [] [9] [0, 0, 0, 0, 0, 0, 0, 0, 0, 0, 1, 1, 1, 1, 1] [0, 0, 0, 0, 0, 0, 0, 0, 0, 0, 1, 1, 1, 1, 1] (by decide +kernel) ?_ | refine DW.nil ?_ | (with_reducible refine IL.wr ?_ ?_; focus exact cW) | (with_reducible refine DW.wr ?_ ?_; focus exact cW) | refine IL.sg ttok ?_ | refine IL.nn ?_ | refine DW.re ttok ?_ | refine DW.rm ttok ?_ | refine DW.cS ttok ent10 [.own, .bor] false ?_ (hS := by exact hge) | refine IL.cS ttok ent14 [.bor] true ?_ (hS := by exact hso) | ((first | ((first | refine IL.ag (fun h => ?_) (fun h => ?_) | refine IL.ap (fun h => ?_) (fun h => ?_)); (fail_if_success (focus (simp only [reduceCtorEq] at h)))) | refine WK.cn (fun h => ?_) (fun h => ?_)); all_goals first | (simp only [reduceCtorEq] at h; done) | (simp only [hsA, hsD, hsE, ne_eq] at h; first | done | (exfalso; omega; done) | skip) | skip))
      refine WK.label ?_
      refine again _ () trivial ?_
      (refine Weak.renP 1 [0, 1, 2, 3, 4] hfx (fun k h => of_decide_eq_true h) (fun k hk => by obtain rfl : k = 0 := (by omega); exact ⟨rfl, _, rfl, rfl⟩) rfl ?_ ?_ rfl <;> (simp only [go_sem, reduceIte, exists_eq_left', exists_eq_left, Blk.mk.injEq] <;> (try and_intros) <;> first | rfl | omega))
end Go.Proofs.Ythneocdjknhgdaa
/- slices.Sort at uint32: the exchange; reverseRange. -/
namespace Go.Proofs.Ythneocdjknhgdaa.Su
open Go Go.Lift Go.Sort
set_option maxHeartbeats 4000000
set_option linter.unusedSimpArgs false
set_option linter.unusedVariables false
attribute [local irreducible] WK IL IP IG IW DW

abbrev uv (x : Int) : IV := .v (.int .u32 x)
abbrev ii (x : Int) : IV := .v (.int .i64 x)
def rwC (d : Array Int) : List IV := encs u32C d.toList
theorem rwC_map (d : Array Int) : rwC d = d.toList.map uv := by
  unfold rwC encs
  induction d.toList with
  | nil => rfl
  | cons a l ih => simp [u32C, ih] at ih ⊢
theorem rwC_len (d : Array Int) : (rwC d).length = d.size := by rw [rwC_map]; simp
theorem rwC_at {d : Array Int} {i : Nat} (h : i < d.size) : (rwC d)[i]? = some (uv d[i]!) := by
  rw [rwC_map, List.getElem?_map]
  simp [h]
theorem swp_size (d : Array Int) (i j : Nat) : (swp d i j).size = d.size := by simp [swp]
theorem rwC_swp {d : Array Int} {i j : Nat} (hi : i < d.size) (hj : j < d.size) : ((rwC d).set i (uv d[j]!)).set j (uv d[i]!) = rwC (swp d i j) := by
  rw [rwC_map, rwC_map]
  unfold swp
  simp only [Array.toList_setIfInBounds, List.map_set]
abbrev uO (n : Nat) (d : Array Int) : IV := .own 24 n true (rwC d)
theorem rev_call (d : Array Int) (n a b : Nat) (hn : d.size = n) (hab : a ≤ b) (hb : 0 < b) (hbd : b ≤ n) (hsz : n ≤ 1000000) : SCall Try.prog 22 [uO n d, ii a, ii b] (.tup []) [uO n (reverseRange d a b), ii a, ii b] := by
  unfold reverseRange
  generalize hr : reverseLoop a (b - 1) d = r
  refine SCall.of_body' (TT := TT) (fun k => decide (k < 1)) [false, false, false] ttok Try.func22 rfl (Nat.le_of_ble_eq_true rfl) rfl fun fx hfx => WK.top ?_
  simp only [impl, imp, argT, List.append_nil, List.map_nil, List.map_cons, List.nil_append, List.cons_append, List.length_cons, List.length_nil, show Try.f22.ntmps = 32 from rfl, Nat.zero_add, Nat.reduceAdd]
  repeat' (first | refine WK.seq ?_ | refine WK.reg ?_ | refine IL.nil ?_ | refine WK.skip ?_ | refine WK.block ?_ | refine WK.exit_here ?_ | refine WK.e1 ?_ | refine WK.e2 ?_ | refine WK.drawnS (id := 3) mixed [0] [13, 15] [0, 0, 0, 0, 0, 0, 0, 0, 0, 0, 0, 0, 0, 0, 1, 1] [0, 0, 1, 1, 0, 0, 0, 0, 0, 0, 0, 0, 0, 0, 1, 1] (by decide +kernel) ?_ | refine DW.nil ?_ | (with_reducible refine IL.wr ?_ ?_; focus exact cW) | (with_reducible refine DW.wr ?_ ?_; focus exact cW) | refine IL.sg ttok ?_ | refine DW.re ttok ?_ | refine DW.rm ttok ?_ | refine DW.bk ttok ?_ | (refine WK.cn (fun h => ?_) (fun h => ?_); all_goals first | (simp only [reduceCtorEq] at h; done) | (simp only [hsA, hsD, hsE, ne_eq] at h; first | done | (exfalso; omega; done) | skip) | skip))
  refine WK.whileS (α := Nat × Nat × Array Int) (fun x => x.2.1 - x.1) (fun x => x.1 ≤ n ∧ x.2.1 < n ∧ x.2.2.size = n ∧ reverseLoop x.1 x.2.1 x.2.2 = r) (fun x => ⟨32, [(0, .sl 0 0 0 n), (6, ii x.1), (7, ii x.2.1)], [some ⟨true, 24, n, true, rwC x.2.2, 0, false⟩]⟩) (a, b - 1, d) ⟨⟨by simp only; omega, by simp only; omega, hn, hr⟩, ?_⟩ ?_
  · have hw : (b : Int) - 1 = ((b - 1 : Nat) : Int) := by omega
    generalize b - 1 = j0 at *
    generalize (b : Int) = B at *
    (refine Weak.renP 1 [0] hfx (fun k h => of_decide_eq_true h) (fun k hk => by obtain rfl : k = 0 := (by omega); exact ⟨rfl, _, rfl, rfl⟩) rfl ?_ ?_ rfl <;> (simp only [go_sem, reduceIte, exists_eq_left', exists_eq_left, Blk.mk.injEq, hw] <;> (try and_intros) <;> first | rfl | omega))
  · rintro ⟨i, j, d⟩ ⟨h1, h2, h3, h4⟩
    simp only at h1 h2 h3 h4
    unfold reverseLoop at h4
    by_cases hij : i < j
    · rw [if_pos hij] at h4
      have e1 : (rwC d)[i]? = some (uv d[i]!) := rwC_at (by omega)
      have e2 : (rwC d)[j]? = some (uv d[j]!) := rwC_at (by omega)
      have hsw := rwC_swp (d := d) (i := i) (j := j) (by omega) (by omega)
      have hs2 := swp_size d i j
      have hl := rwC_len d
      rw [h3] at hl hs2
      have hw : (j : Int) - 1 = ((j - 1 : Nat) : Int) := by omega
      have hl2 : ((rwC d).set i (uv d[j]!)).length = n := by rw [List.length_set]; exact hl
      generalize swp d i j = d' at *
      generalize rwC d = D at *
      generalize d[i]! = x at *
      generalize d[j]! = y at *
      have FX := And.intro e1 (And.intro e2 (And.intro hsw (And.intro hl hl2)))
      repeat' (first | refine WK.seq ?_ | refine WK.reg ?_ | refine IL.nil ?_ | refine WK.skip ?_ | refine WK.block ?_ | refine WK.exit_here ?_ | refine WK.e1 ?_ | refine WK.e2 ?_ | refine WK.drawnS (id := 3) mixed [0] [13, 15] [0, 0, 0, 0, 0, 0, 0, 0, 0, 0, 0, 0, 0, 0, 1, 1] [0, 0, 1, 1, 0, 0, 0, 0, 0, 0, 0, 0, 0, 0, 1, 1] (by decide +kernel) ?_ | refine DW.nil ?_ | (with_reducible refine IL.wr ?_ ?_; focus exact cW) | (with_reducible refine DW.wr ?_ ?_; focus exact cW) | refine IL.sgF ttok ?_ | refine DW.reF ttok ?_ | refine DW.rmF ttok ?_ | refine DW.bkF ttok ?_ | (refine WK.cn (fun h => ?_) (fun h => ?_); all_goals first | (simp only [reduceCtorEq] at h; done) | (simp only [hsA, hsD, hsE, ne_eq] at h; first | done | (exfalso; omega; done) | skip) | skip))
      refine ⟨(i + 1, j - 1, d'), by simp only; omega, ⟨by simp only; omega, by simp only; omega, hs2, h4⟩, ?_⟩
      (refine Weak.renP 1 [0] hfx (fun k h => of_decide_eq_true h) (fun k hk => by obtain rfl : k = 0 := (by omega); exact ⟨rfl, _, rfl, rfl⟩) rfl ?_ ?_ rfl <;> (simp only [go_sem, reduceIte, exists_eq_left', exists_eq_left, Blk.mk.injEq, hw, hsw] <;> (try and_intros) <;> first | rfl | omega))
    · rw [if_neg hij] at h4
      subst h4
      repeat' (first | refine WK.seq ?_ | refine WK.reg ?_ | refine IL.nil ?_ | refine WK.skip ?_ | refine WK.block ?_ | refine WK.exit_here ?_ | refine WK.e1 ?_ | refine WK.e2 ?_ | refine WK.drawnS (id := 3) mixed [0] [13, 15] [0, 0, 0, 0, 0, 0, 0, 0, 0, 0, 0, 0, 0, 0, 1, 1] [0, 0, 1, 1, 0, 0, 0, 0, 0, 0, 0, 0, 0, 0, 1, 1] (by decide +kernel) ?_ | refine DW.nil ?_ | (with_reducible refine IL.wr ?_ ?_; focus exact cW) | (with_reducible refine DW.wr ?_ ?_; focus exact cW) | refine IL.sg ttok ?_ | refine DW.re ttok ?_ | refine DW.rm ttok ?_ | refine DW.bk ttok ?_ | (refine WK.cn (fun h => ?_) (fun h => ?_); all_goals first | (simp only [reduceCtorEq] at h; done) | (simp only [hsA, hsD, hsE, ne_eq] at h; first | done | (exfalso; omega; done) | skip) | skip))
      all_goals try ((first | refine WK.ret ⟨.inr rfl, ?_⟩ | refine ⟨.inl rfl, ?_⟩ | refine ⟨.inl trivial, ?_⟩); refine Fin.o ?_ ?_ (h1 := by first | rfl | (simp only [go_sem, show Try.f22.results.toList = [] from rfl, reduceIte] <;> rfl)); rotate_left 1; (focus (first | rfl | skip)); all_goals try with_reducible rfl)
      all_goals skip
end Go.Proofs.Ythneocdjknhgdaa.Su
/- slices.Sort at uint32: cmp.Less, insertionSort. -/
namespace Go.Proofs.Ythneocdjknhgdaa.Su
open Go Go.Lift Go.Sort
set_option maxHeartbeats 4000000
set_option linter.unusedSimpArgs false
set_option linter.unusedVariables false
attribute [local irreducible] WK IL IP IG IW DW

theorem nan_call (x : Int) : SCall Try.prog 34 [uv x] (.v (.bool false)) [uv x] := by
  have h : (x != x) = false := by simp
  refine SCall.of_body' (TT := TT) (fun _ => false) [false] ttok Try.func34 rfl (Nat.le_of_ble_eq_true rfl) rfl fun fx hfx => WK.top ?_
  simp only [impl, imp, argT, List.append_nil, List.map_nil, List.nil_append, show Try.f34.ntmps = 6 from rfl, Nat.zero_add, Nat.reduceAdd]
  have FX := h
  repeat' (first | refine WK.seq ?_ | refine WK.reg ?_ | refine IL.nil ?_ | (with_reducible refine IL.wr ?_ ?_; focus exact cW) | refine IL.sgF ttok ?_)
  all_goals try ((first | refine WK.ret ⟨.inr rfl, ?_⟩ | refine ⟨.inl rfl, ?_⟩ | refine ⟨.inl trivial, ?_⟩); refine Fin.o ?_ ?_ (h1 := by first | rfl | (simp only [go_sem, show Try.f34.results.toList = [.tmp 2] from rfl, reduceIte] <;> rfl)); rotate_left 1; (focus (first | rfl | skip)); all_goals try with_reducible rfl)
  all_goals skip
theorem less_call (x y : Int) : SCall Try.prog 24 [uv x, uv y] (.v (.bool (ltInt x y))) [uv x, uv y] := by
  unfold ltInt
  refine SCall.of_body' (TT := TT) (fun _ => false) [false, false] ttok Try.func24 rfl (Nat.le_of_ble_eq_true rfl) rfl fun fx hfx => WK.top ?_
  simp only [impl, imp, argT, List.append_nil, List.map_nil, List.nil_append, show Try.f24.ntmps = 17 from rfl, Nat.zero_add, Nat.reduceAdd]
  repeat' (first | refine WK.seq ?_ | refine WK.reg ?_ | refine IL.nil ?_ | (with_reducible refine IL.wr ?_ ?_; focus exact cW) | refine IL.sg ttok ?_ | refine IL.nn ?_ | refine IL.cS ttok ent34 [.bor] true ?_ (hS := by exact nan_call _) | (((first | refine IL.ag (fun h => ?_) (fun h => ?_) | refine IL.ap (fun h => ?_) (fun h => ?_)); (fail_if_success (focus (simp only [reduceCtorEq] at h)))); all_goals first | (simp only [reduceCtorEq] at h; done) | (simp only [hsA, hsD, hsE, ne_eq] at h; first | done | (exfalso; omega; done) | skip) | skip))
  all_goals try ((first | refine WK.ret ⟨.inr rfl, ?_⟩ | refine ⟨.inl rfl, ?_⟩ | refine ⟨.inl trivial, ?_⟩); refine Fin.o ?_ ?_ (h1 := by first | rfl | (simp only [go_sem, show Try.f24.results.toList = [.tmp 4] from rfl, reduceIte] <;> rfl)); rotate_left 1; (focus (first | rfl | skip)); all_goals try with_reducible rfl)
  all_goals skip
theorem insInner_eq (a J : Nat) (d : Array Int) : insInner ltInt a J d = if J > a then (if ltInt d[J]! d[J - 1]! = true then insInner ltInt a (J - 1) (swp d J (J - 1)) else d) else d := by
  cases J with
  | zero => rw [if_neg (by omega)]; rfl
  | succ j =>
    show (if j + 1 > a && ltInt d[j + 1]! d[j]! then insInner ltInt a j (swp d (j + 1) j) else d) = _
    by_cases h : j + 1 > a
    · rw [if_pos h, decide_eq_true h]; simp
    · rw [if_neg h, decide_eq_false h]; simp
theorem insInner_size (a : Nat) : ∀ (J : Nat) (d : Array Int), (insInner ltInt a J d).size = d.size
  | 0, d => rfl
  | j + 1, d => by
    unfold insInner
    split
    · rw [insInner_size a j, swp_size]
    · rfl
theorem ins_call (d : Array Int) (n a b : Nat) (hn : d.size = n) (han : a ≤ n) (hbd : b ≤ n) (hsz : n ≤ 1000000) : SCall Try.prog 18 [uO n d, ii a, ii b] (.tup []) [uO n (insertionSort ltInt d a b), ii a, ii b] := by
  unfold insertionSort
  generalize hr : insOuter ltInt a b (a + 1) d = r
  refine SCall.of_body' (TT := TT) (fun k => decide (k < 1)) [false, false, false] ttok Try.func18 rfl (Nat.le_of_ble_eq_true rfl) rfl fun fx hfx => WK.top ?_
  simp only [impl, imp, argT, List.append_nil, List.map_nil, List.map_cons, List.nil_append, List.cons_append, List.length_cons, List.length_nil, show Try.f18.ntmps = 49 from rfl, Nat.zero_add, Nat.reduceAdd]
  repeat' (first | refine WK.seq ?_ | refine WK.reg ?_ | refine IL.nil ?_ | refine WK.skip ?_ | refine WK.block ?_ | refine WK.exit_here ?_ | refine WK.e1 ?_ | refine WK.e2 ?_ | refine WK.drawnS (id := 4) mixed [0] [13] [0, 0, 0, 0, 0, 0, 0, 0, 0, 0, 0, 0, 0, 0, 1] [0, 0, 0, 0, 0, 0, 0, 0, 0, 0, 0, 0, 0, 0, 1] (by decide +kernel) ?_ | refine WK.drawnS (id := 6) mixed [0] [15, 17] [0, 0, 0, 0, 0, 0, 0, 0, 0, 0, 0, 0, 0, 0, 0, 0, 1, 1] [0, 0, 1, 1, 1, 0, 0, 0, 0, 0, 0, 0, 0, 0, 0, 0, 1, 1] (by decide +kernel) ?_ | refine DW.nil ?_ | (with_reducible refine IL.wr ?_ ?_; focus exact cW) | (with_reducible refine DW.wr ?_ ?_; focus exact cW) | refine IL.sg ttok ?_ | refine DW.re ttok ?_ | refine DW.rm ttok ?_ | refine DW.bk ttok ?_ | refine DW.nn ?_ | refine DW.nb ?_ | refine DW.cS ttok ent24 [.bor, .bor] true ?_ (hS := by exact less_call _ _) | ((first | ((first | refine DW.ag (fun h => ?_) (fun h => ?_) | refine DW.ap (fun h => ?_) (fun h => ?_)); (fail_if_success (focus (simp only [reduceCtorEq] at h)))) | refine WK.cn (fun h => ?_) (fun h => ?_)); all_goals first | (simp only [reduceCtorEq] at h; done) | (simp only [hsA, hsD, hsE, ne_eq] at h; first | done | (exfalso; omega; done) | skip) | skip))
  refine WK.whileS (α := Nat × Array Int) (fun x => b - x.1) (fun x => 1 ≤ x.1 ∧ x.2.size = n ∧ insOuter ltInt a b x.1 x.2 = r) (fun x => ⟨49, [(0, .sl 0 0 0 n), (1, ii a), (2, ii b), (6, ii x.1)], [some ⟨true, 24, n, true, rwC x.2, 0, false⟩]⟩) (a + 1, d) ⟨⟨by simp only; omega, hn, hr⟩, ?_⟩ ?_
  · have hw : (a : Int) + 1 = ((a + 1 : Nat) : Int) := by omega
    (refine Weak.renP 1 [0] hfx (fun k h => of_decide_eq_true h) (fun k hk => by obtain rfl : k = 0 := (by omega); exact ⟨rfl, _, rfl, rfl⟩) rfl ?_ ?_ rfl <;> (simp only [go_sem, reduceIte, exists_eq_left', exists_eq_left, Blk.mk.injEq, hw] <;> (try and_intros) <;> first | rfl | omega))
  · rintro ⟨i, d⟩ ⟨h0, h1, h2⟩
    simp only at h0 h1 h2
    unfold insOuter at h2
    by_cases hib : i < b
    · rw [if_pos hib] at h2
      have hs3 := insInner_size a i d
      generalize hq : insInner ltInt a i d = q at *
      repeat' (first | refine WK.seq ?_ | refine WK.reg ?_ | refine IL.nil ?_ | refine WK.skip ?_ | refine WK.block ?_ | refine WK.exit_here ?_ | refine WK.e1 ?_ | refine WK.e2 ?_ | refine WK.drawnS (id := 4) mixed [0] [13] [0, 0, 0, 0, 0, 0, 0, 0, 0, 0, 0, 0, 0, 0, 1] [0, 0, 0, 0, 0, 0, 0, 0, 0, 0, 0, 0, 0, 0, 1] (by decide +kernel) ?_ | refine WK.drawnS (id := 6) mixed [0] [15, 17] [0, 0, 0, 0, 0, 0, 0, 0, 0, 0, 0, 0, 0, 0, 0, 0, 1, 1] [0, 0, 1, 1, 1, 0, 0, 0, 0, 0, 0, 0, 0, 0, 0, 0, 1, 1] (by decide +kernel) ?_ | refine DW.nil ?_ | (with_reducible refine IL.wr ?_ ?_; focus exact cW) | (with_reducible refine DW.wr ?_ ?_; focus exact cW) | refine IL.sg ttok ?_ | refine DW.re ttok ?_ | refine DW.rm ttok ?_ | refine DW.bk ttok ?_ | refine DW.nn ?_ | refine DW.nb ?_ | refine DW.cS ttok ent24 [.bor, .bor] true ?_ (hS := by exact less_call _ _) | ((first | ((first | refine DW.ag (fun h => ?_) (fun h => ?_) | refine DW.ap (fun h => ?_) (fun h => ?_)); (fail_if_success (focus (simp only [reduceCtorEq] at h)))) | refine WK.cn (fun h => ?_) (fun h => ?_)); all_goals first | (simp only [reduceCtorEq] at h; done) | (simp only [hsA, hsD, hsE, ne_eq] at h; first | done | (exfalso; omega; done) | skip) | skip))
      refine WK.whileS (α := Nat × Array Int) (fun x => x.1) (fun x => x.1 ≤ i ∧ x.2.size = n ∧ insInner ltInt a x.1 x.2 = q) (fun x => ⟨49, [(0, .sl 0 0 0 n), (1, ii a), (2, ii b), (6, ii i), (7, ii x.1)], [some ⟨true, 24, n, true, rwC x.2, 0, false⟩]⟩) (i, d) ⟨⟨Nat.le_refl _, h1, hq⟩, ?_⟩ ?_
      · (refine Weak.renP 1 [0] hfx (fun k h => of_decide_eq_true h) (fun k hk => by obtain rfl : k = 0 := (by omega); exact ⟨rfl, _, rfl, rfl⟩) rfl ?_ ?_ rfl <;> (simp only [go_sem, reduceIte, exists_eq_left', exists_eq_left, Blk.mk.injEq] <;> (try and_intros) <;> first | rfl | omega))
      · rintro ⟨J, d⟩ ⟨g1, g2, g3⟩
        simp only at g1 g2 g3
        rw [insInner_eq] at g3
        by_cases hja : J > a
        · rw [if_pos hja] at g3
          have hga : decide ((J : Int) > (a : Int)) = true := decide_eq_true (by omega)
          have e1 : (rwC d)[J]? = some (uv d[J]!) := rwC_at (by omega)
          have e2 : (rwC d)[J - 1]? = some (uv d[J - 1]!) := rwC_at (by omega)
          have hsw := rwC_swp (d := d) (i := J) (j := J - 1) (by omega) (by omega)
          have hs2 := swp_size d J (J - 1)
          have hl := rwC_len d
          rw [g2] at hl hs2
          have hl2 : ((rwC d).set J (uv d[J - 1]!)).length = n := by rw [List.length_set]; exact hl
          have hw : (J : Int) - 1 = ((J - 1 : Nat) : Int) := by omega
          generalize hD : rwC d = D at *
          generalize d[J]! = x at *
          generalize d[J - 1]! = y at *
          by_cases hlt : ltInt x y = true
          · rw [if_pos hlt] at g3
            generalize swp d J (J - 1) = d' at *
            generalize hj1 : J - 1 = j at *
            have FX := And.intro hga (And.intro e1 (And.intro e2 (And.intro hsw (And.intro hl (And.intro hl2 (And.intro hlt hw))))))
            repeat' (first | refine WK.seq ?_ | refine WK.reg ?_ | refine IL.nil ?_ | refine WK.skip ?_ | refine WK.block ?_ | refine WK.exit_here ?_ | refine WK.e1 ?_ | refine WK.e2 ?_ | refine WK.drawnS (id := 4) mixed [0] [13] [0, 0, 0, 0, 0, 0, 0, 0, 0, 0, 0, 0, 0, 0, 1] [0, 0, 0, 0, 0, 0, 0, 0, 0, 0, 0, 0, 0, 0, 1] (by decide +kernel) ?_ | refine WK.drawnS (id := 6) mixed [0] [15, 17] [0, 0, 0, 0, 0, 0, 0, 0, 0, 0, 0, 0, 0, 0, 0, 0, 1, 1] [0, 0, 1, 1, 1, 0, 0, 0, 0, 0, 0, 0, 0, 0, 0, 0, 1, 1] (by decide +kernel) ?_ | refine DW.nil ?_ | (with_reducible refine IL.wr ?_ ?_; focus exact cW) | (with_reducible refine DW.wr ?_ ?_; focus exact cW) | refine IL.sgF ttok ?_ | refine DW.reF ttok ?_ | refine DW.rmF ttok ?_ | refine DW.bkF ttok ?_ | refine DW.nn ?_ | refine DW.nb ?_ | refine DW.cSF ttok ent24 [.bor, .bor] true ?_ (hS := by exact less_call _ _) | ((first | ((first | refine DW.ag (fun h => ?_) (fun h => ?_) | refine DW.ap (fun h => ?_) (fun h => ?_)); (fail_if_success (focus (simp only [reduceCtorEq] at h)))) | refine WK.cn (fun h => ?_) (fun h => ?_)); all_goals first | (simp only [reduceCtorEq] at h; done) | (simp only [hsA, hsD, hsE, ne_eq] at h; first | done | (exfalso; omega; done) | skip) | skip))
            refine ⟨(j, d'), by simp only; omega, ⟨by simp only; omega, hs2, g3⟩, ?_⟩
            (refine Weak.renP 1 [0] hfx (fun k h => of_decide_eq_true h) (fun k hk => by obtain rfl : k = 0 := (by omega); exact ⟨rfl, _, rfl, rfl⟩) rfl ?_ ?_ rfl <;> (simp only [go_sem, reduceIte, exists_eq_left', exists_eq_left, Blk.mk.injEq, hw, hsw] <;> (try and_intros) <;> first | rfl | omega))
          · rw [if_neg hlt] at g3
            have hlt : ltInt x y = false := by simpa using hlt
            subst g3
            have FX := And.intro hga (And.intro e1 (And.intro e2 (And.intro hl (And.intro hlt hw))))
            repeat' (first | refine WK.seq ?_ | refine WK.reg ?_ | refine IL.nil ?_ | refine WK.skip ?_ | refine WK.block ?_ | refine WK.exit_here ?_ | refine WK.e1 ?_ | refine WK.e2 ?_ | refine WK.drawnS (id := 4) mixed [0] [13] [0, 0, 0, 0, 0, 0, 0, 0, 0, 0, 0, 0, 0, 0, 1] [0, 0, 0, 0, 0, 0, 0, 0, 0, 0, 0, 0, 0, 0, 1] (by decide +kernel) ?_ | refine WK.drawnS (id := 6) mixed [0] [15, 17] [0, 0, 0, 0, 0, 0, 0, 0, 0, 0, 0, 0, 0, 0, 0, 0, 1, 1] [0, 0, 1, 1, 1, 0, 0, 0, 0, 0, 0, 0, 0, 0, 0, 0, 1, 1] (by decide +kernel) ?_ | refine DW.nil ?_ | (with_reducible refine IL.wr ?_ ?_; focus exact cW) | (with_reducible refine DW.wr ?_ ?_; focus exact cW) | refine IL.sgF ttok ?_ | refine DW.reF ttok ?_ | refine DW.rmF ttok ?_ | refine DW.bkF ttok ?_ | refine DW.nn ?_ | refine DW.nb ?_ | refine DW.cSF ttok ent24 [.bor, .bor] true ?_ (hS := by exact less_call _ _) | ((first | ((first | refine DW.ag (fun h => ?_) (fun h => ?_) | refine DW.ap (fun h => ?_) (fun h => ?_)); (fail_if_success (focus (simp only [reduceCtorEq] at h)))) | refine WK.cn (fun h => ?_) (fun h => ?_)); all_goals first | (simp only [reduceCtorEq] at h; done) | (simp only [hsA, hsD, hsE, ne_eq] at h; first | done | (exfalso; omega; done) | skip) | skip))
            have hw2 : (i : Int) + 1 = ((i + 1 : Nat) : Int) := by omega
            refine ⟨(i + 1, d), by simp only; omega, ⟨by simp only; omega, g2, h2⟩, ?_⟩
            (refine Weak.renP 1 [0] hfx (fun k h => of_decide_eq_true h) (fun k hk => by obtain rfl : k = 0 := (by omega); exact ⟨rfl, _, rfl, rfl⟩) rfl ?_ ?_ rfl <;> (simp only [go_sem, reduceIte, exists_eq_left', exists_eq_left, Blk.mk.injEq, hw2, hD] <;> (try and_intros) <;> first | rfl | omega))
        · rw [if_neg hja] at g3
          have hga : decide ((J : Int) > (a : Int)) = false := decide_eq_false (by omega)
          subst g3
          have FX := hga
          repeat' (first | refine WK.seq ?_ | refine WK.reg ?_ | refine IL.nil ?_ | refine WK.skip ?_ | refine WK.block ?_ | refine WK.exit_here ?_ | refine WK.e1 ?_ | refine WK.e2 ?_ | refine WK.drawnS (id := 4) mixed [0] [13] [0, 0, 0, 0, 0, 0, 0, 0, 0, 0, 0, 0, 0, 0, 1] [0, 0, 0, 0, 0, 0, 0, 0, 0, 0, 0, 0, 0, 0, 1] (by decide +kernel) ?_ | refine WK.drawnS (id := 6) mixed [0] [15, 17] [0, 0, 0, 0, 0, 0, 0, 0, 0, 0, 0, 0, 0, 0, 0, 0, 1, 1] [0, 0, 1, 1, 1, 0, 0, 0, 0, 0, 0, 0, 0, 0, 0, 0, 1, 1] (by decide +kernel) ?_ | refine DW.nil ?_ | (with_reducible refine IL.wr ?_ ?_; focus exact cW) | (with_reducible refine DW.wr ?_ ?_; focus exact cW) | refine IL.sgF ttok ?_ | refine DW.reF ttok ?_ | refine DW.rmF ttok ?_ | refine DW.bkF ttok ?_ | refine DW.nn ?_ | refine DW.nb ?_ | refine DW.cSF ttok ent24 [.bor, .bor] true ?_ (hS := by exact less_call _ _) | ((first | ((first | refine DW.ag (fun h => ?_) (fun h => ?_) | refine DW.ap (fun h => ?_) (fun h => ?_)); (fail_if_success (focus (simp only [reduceCtorEq] at h)))) | refine WK.cn (fun h => ?_) (fun h => ?_)); all_goals first | (simp only [reduceCtorEq] at h; done) | (simp only [hsA, hsD, hsE, ne_eq] at h; first | done | (exfalso; omega; done) | skip) | skip))
          have hw2 : (i : Int) + 1 = ((i + 1 : Nat) : Int) := by omega
          refine ⟨(i + 1, d), by simp only; omega, ⟨by simp only; omega, g2, h2⟩, ?_⟩
          (refine Weak.renP 1 [0] hfx (fun k h => of_decide_eq_true h) (fun k hk => by obtain rfl : k = 0 := (by omega); exact ⟨rfl, _, rfl, rfl⟩) rfl ?_ ?_ rfl <;> (simp only [go_sem, reduceIte, exists_eq_left', exists_eq_left, Blk.mk.injEq, hw2] <;> (try and_intros) <;> first | rfl | omega))
    · rw [if_neg hib] at h2
      subst h2
      repeat' (first | refine WK.seq ?_ | refine WK.reg ?_ | refine IL.nil ?_ | refine WK.skip ?_ | refine WK.block ?_ | refine WK.exit_here ?_ | refine WK.e1 ?_ | refine WK.e2 ?_ | refine WK.drawnS (id := 4) mixed [0] [13] [0, 0, 0, 0, 0, 0, 0, 0, 0, 0, 0, 0, 0, 0, 1] [0, 0, 0, 0, 0, 0, 0, 0, 0, 0, 0, 0, 0, 0, 1] (by decide +kernel) ?_ | refine WK.drawnS (id := 6) mixed [0] [15, 17] [0, 0, 0, 0, 0, 0, 0, 0, 0, 0, 0, 0, 0, 0, 0, 0, 1, 1] [0, 0, 1, 1, 1, 0, 0, 0, 0, 0, 0, 0, 0, 0, 0, 0, 1, 1] (by decide +kernel) ?_ | refine DW.nil ?_ | (with_reducible refine IL.wr ?_ ?_; focus exact cW) | (with_reducible refine DW.wr ?_ ?_; focus exact cW) | refine IL.sg ttok ?_ | refine DW.re ttok ?_ | refine DW.rm ttok ?_ | refine DW.bk ttok ?_ | refine DW.nn ?_ | refine DW.nb ?_ | refine DW.cS ttok ent24 [.bor, .bor] true ?_ (hS := by exact less_call _ _) | ((first | ((first | refine DW.ag (fun h => ?_) (fun h => ?_) | refine DW.ap (fun h => ?_) (fun h => ?_)); (fail_if_success (focus (simp only [reduceCtorEq] at h)))) | refine WK.cn (fun h => ?_) (fun h => ?_)); all_goals first | (simp only [reduceCtorEq] at h; done) | (simp only [hsA, hsD, hsE, ne_eq] at h; first | done | (exfalso; omega; done) | skip) | skip))
      all_goals try ((first | refine WK.ret ⟨.inr rfl, ?_⟩ | refine ⟨.inl rfl, ?_⟩ | refine ⟨.inl trivial, ?_⟩); refine Fin.o ?_ ?_ (h1 := by first | rfl | (simp only [go_sem, show Try.f18.results.toList = [] from rfl, reduceIte] <;> rfl)); rotate_left 1; (focus (first | rfl | skip)); all_goals try with_reducible rfl)
      all_goals skip
end Go.Proofs.Ythneocdjknhgdaa.Su
/- slices.Sort at uint32: siftDown, heapSort. -/
namespace Go.Proofs.Ythneocdjknhgdaa.Su
open Go Go.Lift Go.Sort
set_option maxHeartbeats 4000000
set_option linter.unusedSimpArgs false
set_option linter.unusedVariables false
attribute [local irreducible] WK IL IP IG IW DW

theorem sift_eq (hi first root : Nat) (d : Array Int) : siftDown ltInt hi first root d = if 2 * root + 1 ≥ hi then d else
    if 2 * root + 1 + 1 < hi ∧ ltInt d[first + (2 * root + 1)]! d[first + (2 * root + 1) + 1]! = true then
      (if (!ltInt d[first + root]! d[first + (2 * root + 2)]!) = true then d else siftDown ltInt hi first (2 * root + 2) (swp d (first + root) (first + (2 * root + 2))))
    else (if (!ltInt d[first + root]! d[first + (2 * root + 1)]!) = true then d else siftDown ltInt hi first (2 * root + 1) (swp d (first + root) (first + (2 * root + 1)))) := by
  rw [siftDown]
  by_cases h : 2 * root + 1 ≥ hi
  · rw [dif_pos h, if_pos h]
  · rw [dif_neg h, if_neg h]
    by_cases h2 : 2 * root + 1 + 1 < hi ∧ ltInt d[first + (2 * root + 1)]! d[first + (2 * root + 1) + 1]! = true
    · rw [if_pos h2, if_pos (by simpa using h2), dif_pos h2.1]
    · rw [if_neg h2, if_neg (by simpa using h2)]
theorem siftDown_size (hi first : Nat) : ∀ (m root : Nat) (d : Array Int), hi - root ≤ m → (siftDown ltInt hi first root d).size = d.size
  | m, root, d, hm => by
    rw [sift_eq]
    split
    · rfl
    · rename_i h
      cases m with
      | zero => omega
      | succ m =>
        split
        · split
          · rfl
          · rw [siftDown_size hi first m _ _ (by omega), swp_size]
        · split
          · rfl
          · rw [siftDown_size hi first m _ _ (by omega), swp_size]
theorem sift_call (d : Array Int) (n lo hi first : Nat) (hn : d.size = n) (hlo : lo ≤ n) (hfh : first + hi ≤ n) (hsz : n ≤ 1000000) : SCall Try.prog 29 [uO n d, ii lo, ii hi, ii first] (.tup []) [uO n (siftDown ltInt hi first lo d), ii lo, ii hi, ii first] := by
  generalize hr : siftDown ltInt hi first lo d = r
  refine SCall.of_body' (TT := TT) (fun k => decide (k < 1)) [false, false, false, false] ttok Try.func29 rfl (Nat.le_of_ble_eq_true rfl) rfl fun fx hfx => WK.top ?_
  simp only [impl, imp, argT, List.append_nil, List.map_nil, List.map_cons, List.nil_append, List.cons_append, List.length_cons, List.length_nil, show Try.f29.ntmps = 76 from rfl, Nat.zero_add, Nat.reduceAdd]
  repeat' (first | refine WK.seq ?_ | refine WK.reg ?_ | refine IL.nil ?_ | refine WK.skip ?_ | refine WK.block ?_ | refine WK.exit_here ?_ | refine WK.e1 ?_ | refine WK.e2 ?_ | refine WK.drawnS (id := 3) mixed [0] [18] [0, 0, 0, 0, 0, 0, 0, 0, 0, 0, 0, 0, 0, 0, 0, 0, 0, 0, 0, 1] [0, 0, 0, 0, 0, 0, 0, 0, 0, 0, 0, 0, 0, 0, 0, 0, 0, 0, 0, 1] (by decide +kernel) ?_ | refine WK.drawnS (id := 5) mixed [0] [12] [0, 0, 0, 0, 0, 0, 0, 0, 0, 0, 0, 0, 0, 1] [0, 0, 0, 0, 0, 0, 0, 0, 0, 0, 0, 0, 0, 1] (by decide +kernel) ?_ | refine WK.drawnS (id := 6) mixed [0] [21, 23] [0, 0, 0, 0, 0, 0, 0, 0, 0, 0, 0, 0, 0, 0, 0, 0, 0, 0, 0, 0, 0, 0, 1, 1] [0, 0, 0, 0, 1, 1, 1, 1, 0, 0, 0, 0, 0, 0, 0, 0, 0, 0, 0, 0, 0, 0, 1, 1] (by decide +kernel) ?_ | refine DW.nil ?_ | (with_reducible refine IL.wr ?_ ?_; focus exact cW) | (with_reducible refine DW.wr ?_ ?_; focus exact cW) | refine IL.sg ttok ?_ | refine DW.re ttok ?_ | refine DW.rm ttok ?_ | refine DW.bk ttok ?_ | refine DW.nn ?_ | refine DW.nb ?_ | refine DW.cS ttok ent24 [.bor, .bor] true ?_ (hS := by exact less_call _ _) | ((first | ((first | refine DW.ag (fun h => ?_) (fun h => ?_) | refine DW.ap (fun h => ?_) (fun h => ?_)); (fail_if_success (focus (simp only [reduceCtorEq] at h)))) | refine WK.cn (fun h => ?_) (fun h => ?_)); all_goals first | (simp only [reduceCtorEq] at h; done) | (simp only [hsA, hsD, hsE, ne_eq] at h; first | done | (exfalso; omega; done) | skip) | skip))
  refine WK.whileS (α := Nat × Array Int) (fun x => hi - x.1) (fun x => x.1 ≤ n ∧ x.2.size = n ∧ siftDown ltInt hi first x.1 x.2 = r) (fun x => ⟨76, [(0, .sl 0 0 0 n), (2, ii hi), (3, ii first), (8, ii x.1)], [some ⟨true, 24, n, true, rwC x.2, 0, false⟩]⟩) (lo, d) ⟨⟨hlo, hn, hr⟩, ?_⟩ ?_
  · (refine Weak.renP 1 [0] hfx (fun k h => of_decide_eq_true h) (fun k hk => by obtain rfl : k = 0 := (by omega); exact ⟨rfl, _, rfl, rfl⟩) rfl ?_ ?_ rfl <;> (simp only [go_sem, reduceIte, exists_eq_left', exists_eq_left, Blk.mk.injEq] <;> (try and_intros) <;> first | rfl | omega))
  · rintro ⟨root, d⟩ ⟨h0, h1, h2⟩
    simp only at h0 h1 h2
    rw [sift_eq] at h2
    have hw1 : (2 : Int) * (root : Int) + 1 = ((2 * root + 1 : Nat) : Int) := by omega
    have hm0 : 2 * root + 2 = 2 * root + 1 + 1 := rfl
    rw [hm0] at h2
    have hgt : root < 2 * root + 1 := by omega
    generalize hC : 2 * root + 1 = C at *
    by_cases hA : C ≥ hi
    · rw [if_pos hA] at h2
      subst h2
      have hA1 : decide ((C : Int) ≥ (hi : Int)) = true := decide_eq_true (by omega)
      have FX := And.intro hw1 hA1
      repeat' (first | refine WK.seq ?_ | refine WK.reg ?_ | refine IL.nil ?_ | refine WK.skip ?_ | refine WK.block ?_ | refine WK.exit_here ?_ | refine WK.e1 ?_ | refine WK.e2 ?_ | refine WK.drawnS (id := 3) mixed [0] [18] [0, 0, 0, 0, 0, 0, 0, 0, 0, 0, 0, 0, 0, 0, 0, 0, 0, 0, 0, 1] [0, 0, 0, 0, 0, 0, 0, 0, 0, 0, 0, 0, 0, 0, 0, 0, 0, 0, 0, 1] (by decide +kernel) ?_ | refine WK.drawnS (id := 5) mixed [0] [12] [0, 0, 0, 0, 0, 0, 0, 0, 0, 0, 0, 0, 0, 1] [0, 0, 0, 0, 0, 0, 0, 0, 0, 0, 0, 0, 0, 1] (by decide +kernel) ?_ | refine WK.drawnS (id := 6) mixed [0] [21, 23] [0, 0, 0, 0, 0, 0, 0, 0, 0, 0, 0, 0, 0, 0, 0, 0, 0, 0, 0, 0, 0, 0, 1, 1] [0, 0, 0, 0, 1, 1, 1, 1, 0, 0, 0, 0, 0, 0, 0, 0, 0, 0, 0, 0, 0, 0, 1, 1] (by decide +kernel) ?_ | refine DW.nil ?_ | (with_reducible refine IL.wr ?_ ?_; focus exact cW) | (with_reducible refine DW.wr ?_ ?_; focus exact cW) | refine IL.sgF ttok ?_ | refine DW.reF ttok ?_ | refine DW.rmF ttok ?_ | refine DW.bkF ttok ?_ | refine DW.nn ?_ | refine DW.nb ?_ | refine DW.cSF ttok ent24 [.bor, .bor] true ?_ (hS := by exact less_call _ _) | ((first | ((first | refine DW.ag (fun h => ?_) (fun h => ?_) | refine DW.ap (fun h => ?_) (fun h => ?_)); (fail_if_success (focus (simp only [reduceCtorEq] at h)))) | refine WK.cn (fun h => ?_) (fun h => ?_)); all_goals first | (simp only [reduceCtorEq] at h; done) | (simp only [hsA, hsD, hsE, ne_eq] at h; first | done | (exfalso; omega; done) | skip) | skip))
      all_goals try ((first | refine WK.ret ⟨.inr rfl, ?_⟩ | refine ⟨.inl rfl, ?_⟩ | refine ⟨.inl trivial, ?_⟩); refine Fin.o ?_ ?_ (h1 := by first | rfl | (simp only [go_sem, show Try.f29.results.toList = [] from rfl, reduceIte] <;> rfl)); rotate_left 1; (focus (first | rfl | skip)); all_goals try with_reducible rfl)
      all_goals skip
    · rw [if_neg hA] at h2
      have hA1 : decide ((C : Int) ≥ (hi : Int)) = false := decide_eq_false (by omega)
      by_cases hB : C + 1 < hi
      · have hB1 : decide (((C + 1 : Nat) : Int) < (hi : Int)) = true := decide_eq_true (by omega)
        have hw2 : (C : Int) + 1 = ((C + 1 : Nat) : Int) := by omega
        by_cases hL : ltInt d[first + C]! d[first + C + 1]! = true
        · rw [if_pos ⟨hB, hL⟩] at h2
          have k1 : (rwC d)[first + C]? = some (uv d[first + C]!) := rwC_at (by omega)
          have k2 : (rwC d)[first + C + 1]? = some (uv d[first + C + 1]!) := rwC_at (by omega)
          have kf1 : (first : Int) + (C : Int) = ((first + C : Nat) : Int) := by omega
          have kf2 : ((first + C : Nat) : Int) + 1 = ((first + C + 1 : Nat) : Int) := by omega
          have kb : first + C + 1 < n := by omega
          rw [Nat.add_assoc first C 1] at k2 kf2 kb hL
          generalize C + 1 = C1 at *
          generalize hP : first + C = P at *
          by_cases hlt : ltInt d[first + root]! d[first + C1]! = true
          · rw [if_neg (by rw [hlt]; decide)] at h2
            have e1 : (rwC d)[first + root]? = some (uv d[first + root]!) := rwC_at (by omega)
            have e2 : (rwC d)[first + C1]? = some (uv d[first + C1]!) := rwC_at (by omega)
            have hsw := rwC_swp (d := d) (i := first + root) (j := first + C1) (by omega) (by omega)
            have hs2 := swp_size d (first + root) (first + C1)
            have hl := rwC_len d
            rw [h1] at hl hs2
            have hl2 : ((rwC d).set (first + root) (uv d[first + C1]!)).length = n := by rw [List.length_set]; exact hl
            have hf1 : (first : Int) + (root : Int) = ((first + root : Nat) : Int) := by omega
            have hf2 : (first : Int) + (C1 : Int) = ((first + C1 : Nat) : Int) := by omega
            have b1 : first + root < n := by omega
            have b2 : first + C1 < n := by omega
            generalize swp d (first + root) (first + C1) = d' at *
            generalize rwC d = D at *
            generalize d[first + root]! = x at *
            generalize d[first + C1]! = y at *
            generalize first + root = p at *
            generalize first + C1 = q at *
            have FX := And.intro hw1 (And.intro e1 (And.intro e2 (And.intro hsw (And.intro hl (And.intro hl2 (And.intro hlt (And.intro hf1 (And.intro hf2 (And.intro hA1 (And.intro hB1 (And.intro hw2 (And.intro k1 (And.intro k2 (And.intro kf1 (And.intro kf2 hL)))))))))))))))
            repeat' (first | refine WK.seq ?_ | refine WK.reg ?_ | refine IL.nil ?_ | refine WK.skip ?_ | refine WK.block ?_ | refine WK.exit_here ?_ | refine WK.e1 ?_ | refine WK.e2 ?_ | refine WK.drawnS (id := 3) mixed [0] [18] [0, 0, 0, 0, 0, 0, 0, 0, 0, 0, 0, 0, 0, 0, 0, 0, 0, 0, 0, 1] [0, 0, 0, 0, 0, 0, 0, 0, 0, 0, 0, 0, 0, 0, 0, 0, 0, 0, 0, 1] (by decide +kernel) ?_ | refine WK.drawnS (id := 5) mixed [0] [12] [0, 0, 0, 0, 0, 0, 0, 0, 0, 0, 0, 0, 0, 1] [0, 0, 0, 0, 0, 0, 0, 0, 0, 0, 0, 0, 0, 1] (by decide +kernel) ?_ | refine WK.drawnS (id := 6) mixed [0] [21, 23] [0, 0, 0, 0, 0, 0, 0, 0, 0, 0, 0, 0, 0, 0, 0, 0, 0, 0, 0, 0, 0, 0, 1, 1] [0, 0, 0, 0, 1, 1, 1, 1, 0, 0, 0, 0, 0, 0, 0, 0, 0, 0, 0, 0, 0, 0, 1, 1] (by decide +kernel) ?_ | refine DW.nil ?_ | (with_reducible refine IL.wr ?_ ?_; focus exact cW) | (with_reducible refine DW.wr ?_ ?_; focus exact cW) | refine IL.sgF ttok ?_ | refine DW.reF ttok ?_ | refine DW.rmF ttok ?_ | refine DW.bkF ttok ?_ | refine DW.nn ?_ | refine DW.nb ?_ | refine DW.cSF ttok ent24 [.bor, .bor] true ?_ (hS := by exact less_call _ _) | ((first | ((first | refine DW.ag (fun h => ?_) (fun h => ?_) | refine DW.ap (fun h => ?_) (fun h => ?_)); (fail_if_success (focus (simp only [reduceCtorEq] at h)))) | refine WK.cn (fun h => ?_) (fun h => ?_)); all_goals first | (simp only [reduceCtorEq] at h; done) | (simp only [hsA, hsD, hsE, ne_eq] at h; first | done | (exfalso; omega; done) | skip) | skip))
            refine ⟨(C1, d'), by simp only; omega, ⟨by simp only; omega, hs2, h2⟩, ?_⟩
            (refine Weak.renP 1 [0] hfx (fun k h => of_decide_eq_true h) (fun k hk => by obtain rfl : k = 0 := (by omega); exact ⟨rfl, _, rfl, rfl⟩) rfl ?_ ?_ rfl <;> (simp only [go_sem, reduceIte, exists_eq_left', exists_eq_left, Blk.mk.injEq, hw1, hsw, hw2] <;> (try and_intros) <;> first | rfl | omega))
          · have hlt : ltInt d[first + root]! d[first + C1]! = false := by simpa using hlt
            rw [if_pos (by rw [hlt]; rfl)] at h2
            subst h2
            have e1 : (rwC d)[first + root]? = some (uv d[first + root]!) := rwC_at (by omega)
            have e2 : (rwC d)[first + C1]? = some (uv d[first + C1]!) := rwC_at (by omega)
            have hl := rwC_len d
            rw [h1] at hl
            have hf1 : (first : Int) + (root : Int) = ((first + root : Nat) : Int) := by omega
            have hf2 : (first : Int) + (C1 : Int) = ((first + C1 : Nat) : Int) := by omega
            have b1 : first + root < n := by omega
            have b2 : first + C1 < n := by omega
            generalize d[first + root]! = x at *
            generalize d[first + C1]! = y at *
            generalize first + root = p at *
            generalize first + C1 = q at *
            have FX := And.intro hw1 (And.intro e1 (And.intro e2 (And.intro hl (And.intro hlt (And.intro hf1 (And.intro hf2 (And.intro hA1 (And.intro hB1 (And.intro hw2 (And.intro k1 (And.intro k2 (And.intro kf1 (And.intro kf2 hL)))))))))))))
            repeat' (first | refine WK.seq ?_ | refine WK.reg ?_ | refine IL.nil ?_ | refine WK.skip ?_ | refine WK.block ?_ | refine WK.exit_here ?_ | refine WK.e1 ?_ | refine WK.e2 ?_ | refine WK.drawnS (id := 3) mixed [0] [18] [0, 0, 0, 0, 0, 0, 0, 0, 0, 0, 0, 0, 0, 0, 0, 0, 0, 0, 0, 1] [0, 0, 0, 0, 0, 0, 0, 0, 0, 0, 0, 0, 0, 0, 0, 0, 0, 0, 0, 1] (by decide +kernel) ?_ | refine WK.drawnS (id := 5) mixed [0] [12] [0, 0, 0, 0, 0, 0, 0, 0, 0, 0, 0, 0, 0, 1] [0, 0, 0, 0, 0, 0, 0, 0, 0, 0, 0, 0, 0, 1] (by decide +kernel) ?_ | refine WK.drawnS (id := 6) mixed [0] [21, 23] [0, 0, 0, 0, 0, 0, 0, 0, 0, 0, 0, 0, 0, 0, 0, 0, 0, 0, 0, 0, 0, 0, 1, 1] [0, 0, 0, 0, 1, 1, 1, 1, 0, 0, 0, 0, 0, 0, 0, 0, 0, 0, 0, 0, 0, 0, 1, 1] (by decide +kernel) ?_ | refine DW.nil ?_ | (with_reducible refine IL.wr ?_ ?_; focus exact cW) | (with_reducible refine DW.wr ?_ ?_; focus exact cW) | refine IL.sgF ttok ?_ | refine DW.reF ttok ?_ | refine DW.rmF ttok ?_ | refine DW.bkF ttok ?_ | refine DW.nn ?_ | refine DW.nb ?_ | refine DW.cSF ttok ent24 [.bor, .bor] true ?_ (hS := by exact less_call _ _) | ((first | ((first | refine DW.ag (fun h => ?_) (fun h => ?_) | refine DW.ap (fun h => ?_) (fun h => ?_)); (fail_if_success (focus (simp only [reduceCtorEq] at h)))) | refine WK.cn (fun h => ?_) (fun h => ?_)); all_goals first | (simp only [reduceCtorEq] at h; done) | (simp only [hsA, hsD, hsE, ne_eq] at h; first | done | (exfalso; omega; done) | skip) | skip))
            all_goals try ((first | refine WK.ret ⟨.inr rfl, ?_⟩ | refine ⟨.inl rfl, ?_⟩ | refine ⟨.inl trivial, ?_⟩); refine Fin.o ?_ ?_ (h1 := by first | rfl | (simp only [go_sem, show Try.f29.results.toList = [] from rfl, reduceIte] <;> rfl)); rotate_left 1; (focus (first | rfl | skip)); all_goals try with_reducible rfl)
            all_goals skip
        · rw [if_neg (fun h => hL h.2)] at h2
          have hL : ltInt d[first + C]! d[first + C + 1]! = false := by simpa using hL
          have k2 : (rwC d)[first + C + 1]? = some (uv d[first + C + 1]!) := rwC_at (by omega)
          have kf2 : ((first + C : Nat) : Int) + 1 = ((first + C + 1 : Nat) : Int) := by omega
          have kb : first + C + 1 < n := by omega
          generalize first + C + 1 = Q at *
          generalize C + 1 = C1 at *
          generalize d[Q]! = xq at *
          by_cases hlt : ltInt d[first + root]! d[first + C]! = true
          · rw [if_neg (by rw [hlt]; decide)] at h2
            have e1 : (rwC d)[first + root]? = some (uv d[first + root]!) := rwC_at (by omega)
            have e2 : (rwC d)[first + C]? = some (uv d[first + C]!) := rwC_at (by omega)
            have hsw := rwC_swp (d := d) (i := first + root) (j := first + C) (by omega) (by omega)
            have hs2 := swp_size d (first + root) (first + C)
            have hl := rwC_len d
            rw [h1] at hl hs2
            have hl2 : ((rwC d).set (first + root) (uv d[first + C]!)).length = n := by rw [List.length_set]; exact hl
            have hf1 : (first : Int) + (root : Int) = ((first + root : Nat) : Int) := by omega
            have hf2 : (first : Int) + (C : Int) = ((first + C : Nat) : Int) := by omega
            have b1 : first + root < n := by omega
            have b2 : first + C < n := by omega
            generalize swp d (first + root) (first + C) = d' at *
            generalize rwC d = D at *
            generalize d[first + root]! = x at *
            generalize d[first + C]! = y at *
            generalize first + root = p at *
            generalize first + C = q at *
            have FX := And.intro hw1 (And.intro e1 (And.intro e2 (And.intro hsw (And.intro hl (And.intro hl2 (And.intro hlt (And.intro hf1 (And.intro hf2 (And.intro hA1 (And.intro hB1 (And.intro hw2 (And.intro k2 (And.intro kf2 hL)))))))))))))
            repeat' (first | refine WK.seq ?_ | refine WK.reg ?_ | refine IL.nil ?_ | refine WK.skip ?_ | refine WK.block ?_ | refine WK.exit_here ?_ | refine WK.e1 ?_ | refine WK.e2 ?_ | refine WK.drawnS (id := 3) mixed [0] [18] [0, 0, 0, 0, 0, 0, 0, 0, 0, 0, 0, 0, 0, 0, 0, 0, 0, 0, 0, 1] [0, 0, 0, 0, 0, 0, 0, 0, 0, 0, 0, 0, 0, 0, 0, 0, 0, 0, 0, 1] (by decide +kernel) ?_ | refine WK.drawnS (id := 5) mixed [0] [12] [0, 0, 0, 0, 0, 0, 0, 0, 0, 0, 0, 0, 0, 1] [0, 0, 0, 0, 0, 0, 0, 0, 0, 0, 0, 0, 0, 1] (by decide +kernel) ?_ | refine WK.drawnS (id := 6) mixed [0] [21, 23] [0, 0, 0, 0, 0, 0, 0, 0, 0, 0, 0, 0, 0, 0, 0, 0, 0, 0, 0, 0, 0, 0, 1, 1] [0, 0, 0, 0, 1, 1, 1, 1, 0, 0, 0, 0, 0, 0, 0, 0, 0, 0, 0, 0, 0, 0, 1, 1] (by decide +kernel) ?_ | refine DW.nil ?_ | (with_reducible refine IL.wr ?_ ?_; focus exact cW) | (with_reducible refine DW.wr ?_ ?_; focus exact cW) | refine IL.sgF ttok ?_ | refine DW.reF ttok ?_ | refine DW.rmF ttok ?_ | refine DW.bkF ttok ?_ | refine DW.nn ?_ | refine DW.nb ?_ | refine DW.cSF ttok ent24 [.bor, .bor] true ?_ (hS := by exact less_call _ _) | ((first | ((first | refine DW.ag (fun h => ?_) (fun h => ?_) | refine DW.ap (fun h => ?_) (fun h => ?_)); (fail_if_success (focus (simp only [reduceCtorEq] at h)))) | refine WK.cn (fun h => ?_) (fun h => ?_)); all_goals first | (simp only [reduceCtorEq] at h; done) | (simp only [hsA, hsD, hsE, ne_eq] at h; first | done | (exfalso; omega; done) | skip) | skip))
            refine ⟨(C, d'), by simp only; omega, ⟨by simp only; omega, hs2, h2⟩, ?_⟩
            (refine Weak.renP 1 [0] hfx (fun k h => of_decide_eq_true h) (fun k hk => by obtain rfl : k = 0 := (by omega); exact ⟨rfl, _, rfl, rfl⟩) rfl ?_ ?_ rfl <;> (simp only [go_sem, reduceIte, exists_eq_left', exists_eq_left, Blk.mk.injEq, hw1, hsw] <;> (try and_intros) <;> first | rfl | omega))
          · have hlt : ltInt d[first + root]! d[first + C]! = false := by simpa using hlt
            rw [if_pos (by rw [hlt]; rfl)] at h2
            subst h2
            have e1 : (rwC d)[first + root]? = some (uv d[first + root]!) := rwC_at (by omega)
            have e2 : (rwC d)[first + C]? = some (uv d[first + C]!) := rwC_at (by omega)
            have hl := rwC_len d
            rw [h1] at hl
            have hf1 : (first : Int) + (root : Int) = ((first + root : Nat) : Int) := by omega
            have hf2 : (first : Int) + (C : Int) = ((first + C : Nat) : Int) := by omega
            have b1 : first + root < n := by omega
            have b2 : first + C < n := by omega
            generalize d[first + root]! = x at *
            generalize d[first + C]! = y at *
            generalize first + root = p at *
            generalize first + C = q at *
            have FX := And.intro hw1 (And.intro e1 (And.intro e2 (And.intro hl (And.intro hlt (And.intro hf1 (And.intro hf2 (And.intro hA1 (And.intro hB1 (And.intro hw2 (And.intro k2 (And.intro kf2 hL)))))))))))
            repeat' (first | refine WK.seq ?_ | refine WK.reg ?_ | refine IL.nil ?_ | refine WK.skip ?_ | refine WK.block ?_ | refine WK.exit_here ?_ | refine WK.e1 ?_ | refine WK.e2 ?_ | refine WK.drawnS (id := 3) mixed [0] [18] [0, 0, 0, 0, 0, 0, 0, 0, 0, 0, 0, 0, 0, 0, 0, 0, 0, 0, 0, 1] [0, 0, 0, 0, 0, 0, 0, 0, 0, 0, 0, 0, 0, 0, 0, 0, 0, 0, 0, 1] (by decide +kernel) ?_ | refine WK.drawnS (id := 5) mixed [0] [12] [0, 0, 0, 0, 0, 0, 0, 0, 0, 0, 0, 0, 0, 1] [0, 0, 0, 0, 0, 0, 0, 0, 0, 0, 0, 0, 0, 1] (by decide +kernel) ?_ | refine WK.drawnS (id := 6) mixed [0] [21, 23] [0, 0, 0, 0, 0, 0, 0, 0, 0, 0, 0, 0, 0, 0, 0, 0, 0, 0, 0, 0, 0, 0, 1, 1] [0, 0, 0, 0, 1, 1, 1, 1, 0, 0, 0, 0, 0, 0, 0, 0, 0, 0, 0, 0, 0, 0, 1, 1] (by decide +kernel) ?_ | refine DW.nil ?_ | (with_reducible refine IL.wr ?_ ?_; focus exact cW) | (with_reducible refine DW.wr ?_ ?_; focus exact cW) | refine IL.sgF ttok ?_ | refine DW.reF ttok ?_ | refine DW.rmF ttok ?_ | refine DW.bkF ttok ?_ | refine DW.nn ?_ | refine DW.nb ?_ | refine DW.cSF ttok ent24 [.bor, .bor] true ?_ (hS := by exact less_call _ _) | ((first | ((first | refine DW.ag (fun h => ?_) (fun h => ?_) | refine DW.ap (fun h => ?_) (fun h => ?_)); (fail_if_success (focus (simp only [reduceCtorEq] at h)))) | refine WK.cn (fun h => ?_) (fun h => ?_)); all_goals first | (simp only [reduceCtorEq] at h; done) | (simp only [hsA, hsD, hsE, ne_eq] at h; first | done | (exfalso; omega; done) | skip) | skip))
            all_goals try ((first | refine WK.ret ⟨.inr rfl, ?_⟩ | refine ⟨.inl rfl, ?_⟩ | refine ⟨.inl trivial, ?_⟩); refine Fin.o ?_ ?_ (h1 := by first | rfl | (simp only [go_sem, show Try.f29.results.toList = [] from rfl, reduceIte] <;> rfl)); rotate_left 1; (focus (first | rfl | skip)); all_goals try with_reducible rfl)
            all_goals skip
      · rw [if_neg (fun h => hB h.1)] at h2
        have hw2 : (C : Int) + 1 = ((C + 1 : Nat) : Int) := by omega
        have hB1 : decide (((C + 1 : Nat) : Int) < (hi : Int)) = false := decide_eq_false (by omega)
        by_cases hlt : ltInt d[first + root]! d[first + C]! = true
        · rw [if_neg (by rw [hlt]; decide)] at h2
          have e1 : (rwC d)[first + root]? = some (uv d[first + root]!) := rwC_at (by omega)
          have e2 : (rwC d)[first + C]? = some (uv d[first + C]!) := rwC_at (by omega)
          have hsw := rwC_swp (d := d) (i := first + root) (j := first + C) (by omega) (by omega)
          have hs2 := swp_size d (first + root) (first + C)
          have hl := rwC_len d
          rw [h1] at hl hs2
          have hl2 : ((rwC d).set (first + root) (uv d[first + C]!)).length = n := by rw [List.length_set]; exact hl
          have hf1 : (first : Int) + (root : Int) = ((first + root : Nat) : Int) := by omega
          have hf2 : (first : Int) + (C : Int) = ((first + C : Nat) : Int) := by omega
          have b1 : first + root < n := by omega
          have b2 : first + C < n := by omega
          generalize swp d (first + root) (first + C) = d' at *
          generalize rwC d = D at *
          generalize d[first + root]! = x at *
          generalize d[first + C]! = y at *
          generalize first + root = p at *
          generalize first + C = q at *
          have FX := And.intro hw1 (And.intro e1 (And.intro e2 (And.intro hsw (And.intro hl (And.intro hl2 (And.intro hlt (And.intro hf1 (And.intro hf2 (And.intro hA1 (And.intro hB1 hw2))))))))))
          repeat' (first | refine WK.seq ?_ | refine WK.reg ?_ | refine IL.nil ?_ | refine WK.skip ?_ | refine WK.block ?_ | refine WK.exit_here ?_ | refine WK.e1 ?_ | refine WK.e2 ?_ | refine WK.drawnS (id := 3) mixed [0] [18] [0, 0, 0, 0, 0, 0, 0, 0, 0, 0, 0, 0, 0, 0, 0, 0, 0, 0, 0, 1] [0, 0, 0, 0, 0, 0, 0, 0, 0, 0, 0, 0, 0, 0, 0, 0, 0, 0, 0, 1] (by decide +kernel) ?_ | refine WK.drawnS (id := 5) mixed [0] [12] [0, 0, 0, 0, 0, 0, 0, 0, 0, 0, 0, 0, 0, 1] [0, 0, 0, 0, 0, 0, 0, 0, 0, 0, 0, 0, 0, 1] (by decide +kernel) ?_ | refine WK.drawnS (id := 6) mixed [0] [21, 23] [0, 0, 0, 0, 0, 0, 0, 0, 0, 0, 0, 0, 0, 0, 0, 0, 0, 0, 0, 0, 0, 0, 1, 1] [0, 0, 0, 0, 1, 1, 1, 1, 0, 0, 0, 0, 0, 0, 0, 0, 0, 0, 0, 0, 0, 0, 1, 1] (by decide +kernel) ?_ | refine DW.nil ?_ | (with_reducible refine IL.wr ?_ ?_; focus exact cW) | (with_reducible refine DW.wr ?_ ?_; focus exact cW) | refine IL.sgF ttok ?_ | refine DW.reF ttok ?_ | refine DW.rmF ttok ?_ | refine DW.bkF ttok ?_ | refine DW.nn ?_ | refine DW.nb ?_ | refine DW.cSF ttok ent24 [.bor, .bor] true ?_ (hS := by exact less_call _ _) | ((first | ((first | refine DW.ag (fun h => ?_) (fun h => ?_) | refine DW.ap (fun h => ?_) (fun h => ?_)); (fail_if_success (focus (simp only [reduceCtorEq] at h)))) | refine WK.cn (fun h => ?_) (fun h => ?_)); all_goals first | (simp only [reduceCtorEq] at h; done) | (simp only [hsA, hsD, hsE, ne_eq] at h; first | done | (exfalso; omega; done) | skip) | skip))
          refine ⟨(C, d'), by simp only; omega, ⟨by simp only; omega, hs2, h2⟩, ?_⟩
          (refine Weak.renP 1 [0] hfx (fun k h => of_decide_eq_true h) (fun k hk => by obtain rfl : k = 0 := (by omega); exact ⟨rfl, _, rfl, rfl⟩) rfl ?_ ?_ rfl <;> (simp only [go_sem, reduceIte, exists_eq_left', exists_eq_left, Blk.mk.injEq, hw1, hsw] <;> (try and_intros) <;> first | rfl | omega))
        · have hlt : ltInt d[first + root]! d[first + C]! = false := by simpa using hlt
          rw [if_pos (by rw [hlt]; rfl)] at h2
          subst h2
          have e1 : (rwC d)[first + root]? = some (uv d[first + root]!) := rwC_at (by omega)
          have e2 : (rwC d)[first + C]? = some (uv d[first + C]!) := rwC_at (by omega)
          have hl := rwC_len d
          rw [h1] at hl
          have hf1 : (first : Int) + (root : Int) = ((first + root : Nat) : Int) := by omega
          have hf2 : (first : Int) + (C : Int) = ((first + C : Nat) : Int) := by omega
          have b1 : first + root < n := by omega
          have b2 : first + C < n := by omega
          generalize d[first + root]! = x at *
          generalize d[first + C]! = y at *
          generalize first + root = p at *
          generalize first + C = q at *
          have FX := And.intro hw1 (And.intro e1 (And.intro e2 (And.intro hl (And.intro hlt (And.intro hf1 (And.intro hf2 (And.intro hA1 (And.intro hB1 hw2))))))))
          repeat' (first | refine WK.seq ?_ | refine WK.reg ?_ | refine IL.nil ?_ | refine WK.skip ?_ | refine WK.block ?_ | refine WK.exit_here ?_ | refine WK.e1 ?_ | refine WK.e2 ?_ | refine WK.drawnS (id := 3) mixed [0] [18] [0, 0, 0, 0, 0, 0, 0, 0, 0, 0, 0, 0, 0, 0, 0, 0, 0, 0, 0, 1] [0, 0, 0, 0, 0, 0, 0, 0, 0, 0, 0, 0, 0, 0, 0, 0, 0, 0, 0, 1] (by decide +kernel) ?_ | refine WK.drawnS (id := 5) mixed [0] [12] [0, 0, 0, 0, 0, 0, 0, 0, 0, 0, 0, 0, 0, 1] [0, 0, 0, 0, 0, 0, 0, 0, 0, 0, 0, 0, 0, 1] (by decide +kernel) ?_ | refine WK.drawnS (id := 6) mixed [0] [21, 23] [0, 0, 0, 0, 0, 0, 0, 0, 0, 0, 0, 0, 0, 0, 0, 0, 0, 0, 0, 0, 0, 0, 1, 1] [0, 0, 0, 0, 1, 1, 1, 1, 0, 0, 0, 0, 0, 0, 0, 0, 0, 0, 0, 0, 0, 0, 1, 1] (by decide +kernel) ?_ | refine DW.nil ?_ | (with_reducible refine IL.wr ?_ ?_; focus exact cW) | (with_reducible refine DW.wr ?_ ?_; focus exact cW) | refine IL.sgF ttok ?_ | refine DW.reF ttok ?_ | refine DW.rmF ttok ?_ | refine DW.bkF ttok ?_ | refine DW.nn ?_ | refine DW.nb ?_ | refine DW.cSF ttok ent24 [.bor, .bor] true ?_ (hS := by exact less_call _ _) | ((first | ((first | refine DW.ag (fun h => ?_) (fun h => ?_) | refine DW.ap (fun h => ?_) (fun h => ?_)); (fail_if_success (focus (simp only [reduceCtorEq] at h)))) | refine WK.cn (fun h => ?_) (fun h => ?_)); all_goals first | (simp only [reduceCtorEq] at h; done) | (simp only [hsA, hsD, hsE, ne_eq] at h; first | done | (exfalso; omega; done) | skip) | skip))
          all_goals try ((first | refine WK.ret ⟨.inr rfl, ?_⟩ | refine ⟨.inl rfl, ?_⟩ | refine ⟨.inl trivial, ?_⟩); refine Fin.o ?_ ?_ (h1 := by first | rfl | (simp only [go_sem, show Try.f29.results.toList = [] from rfl, reduceIte] <;> rfl)); rotate_left 1; (focus (first | rfl | skip)); all_goals try with_reducible rfl)
          all_goals skip
end Go.Proofs.Ythneocdjknhgdaa.Su
/- slices.Sort at uint32: heapSort. -/
namespace Go.Proofs.Ythneocdjknhgdaa.Su
open Go Go.Lift Go.Sort
set_option maxHeartbeats 4000000
set_option linter.unusedSimpArgs false
set_option linter.unusedVariables false
attribute [local irreducible] WK IL IP IG IW DW

theorem heapBuild_size (hi first : Nat) : ∀ (k : Nat) (d : Array Int), (heapBuild ltInt hi first k d).size = d.size
  | 0, d => rfl
  | k + 1, d => by rw [heapBuild, heapBuild_size, siftDown_size _ _ _ _ _ (Nat.le_refl _)]
theorem heapPop_size (first : Nat) : ∀ (k : Nat) (d : Array Int), (heapPop ltInt first k d).size = d.size
  | 0, d => rfl
  | k + 1, d => by rw [heapPop, heapPop_size, siftDown_size _ _ _ _ _ (Nat.le_refl _), swp_size]
theorem heapSort_size (d : Array Int) (a b : Nat) : (heapSort ltInt d a b).size = d.size := by rw [heapSort, heapPop_size, heapBuild_size]
theorem heap_call (d : Array Int) (n a b : Nat) (hn : d.size = n) (hab : a < b) (hbd : b ≤ n) (hsz : n ≤ 1000000) : SCall Try.prog 19 [uO n d, ii a, ii b] (.tup []) [uO n (heapSort ltInt d a b), ii a, ii b] := by
  have hn0 : 0 < n := by omega
  unfold heapSort
  have hhi : (b : Int) - (a : Int) = ((b - a : Nat) : Int) := by omega
  have hh1 : 0 < b - a := by omega
  have hh2 : a + (b - a) ≤ n := by omega
  generalize hH : b - a = H at *
  have hH1 : (H : Int) - 1 = ((H - 1 : Nat) : Int) := by omega
  have hq : Int.tdiv ((H - 1 : Nat) : Int) 2 = (((H - 1) / 2 + 1 : Nat) : Int) - 1 := by
    rw [Int.tdiv_eq_ediv_of_nonneg (by omega)]; omega
  have hq2 : (H - 1) / 2 + 1 ≤ n := by omega
  generalize hb : heapBuild ltInt H a ((H - 1) / 2 + 1) d = d1
  have hd1 : d1.size = n := by rw [← hb, heapBuild_size, hn]
  generalize hr : heapPop ltInt a H d1 = r
  generalize (H - 1) / 2 + 1 = k0 at *
  generalize hh3 : H - 1 = H1 at *
  refine SCall.of_body' (TT := TT) (fun k => decide (k < 1)) [false, false, false] ttok Try.func19 rfl (Nat.le_of_ble_eq_true rfl) rfl fun fx hfx => WK.top ?_
  simp only [impl, imp, argT, List.append_nil, List.map_nil, List.map_cons, List.nil_append, List.cons_append, List.length_cons, List.length_nil, show Try.f19.ntmps = 56 from rfl, Nat.zero_add, Nat.reduceAdd]
  have FX := And.intro hhi (And.intro hH1 (And.intro hq hn0))
  repeat' (first | refine WK.seq ?_ | refine WK.reg ?_ | refine IL.nil ?_ | refine WK.skip ?_ | refine WK.block ?_ | refine WK.exit_here ?_ | refine WK.e1 ?_ | refine WK.e2 ?_ | refine WK.drawnS (id := 10) mixed [0] [17, 19] [0, 0, 0, 0, 0, 0, 0, 0, 0, 0, 0, 0, 0, 0, 0, 0, 0, 0, 1, 1] [0, 0, 1, 1, 1, 1, 0, 0, 0, 0, 0, 0, 0, 0, 0, 0, 0, 0, 1, 1] (by decide +kernel) ?_ | refine DW.nil ?_ | (with_reducible refine IL.wr ?_ ?_; focus exact cW) | (with_reducible refine DW.wr ?_ ?_; focus exact cW) | refine IL.sgF ttok ?_ | refine DW.reF ttok ?_ | refine DW.rmF ttok ?_ | refine DW.bkF ttok ?_ | refine IL.cSF ttok ent29 [.own, .bor, .bor, .bor] false ?_ (hS := by exact hsc) | (refine WK.cn (fun h => ?_) (fun h => ?_); all_goals first | (simp only [reduceCtorEq] at h; done) | (simp only [hsA, hsD, hsE, ne_eq] at h; first | done | (exfalso; omega; done) | skip) | skip))
  refine WK.whileS (α := Nat × Array Int) (fun x => x.1) (fun x => x.1 ≤ n ∧ x.2.size = n ∧ heapBuild ltInt H a x.1 x.2 = d1) (fun x => ⟨56, [(0, .sl 0 0 0 n), (6, ii a), (7, ii 0), (8, ii H), (9, ii ((x.1 : Int) - 1))], [some ⟨true, 24, n, true, rwC x.2, 0, false⟩]⟩) (k0, d) ⟨⟨hq2, hn, hb⟩, ?_⟩ ?_
  · (refine Weak.renP 1 [0] hfx (fun k h => of_decide_eq_true h) (fun k hk => by obtain rfl : k = 0 := (by omega); exact ⟨rfl, _, rfl, rfl⟩) rfl ?_ ?_ rfl <;> (simp only [go_sem, reduceIte, exists_eq_left', exists_eq_left, Blk.mk.injEq] <;> (try and_intros) <;> first | rfl | omega))
  · rintro ⟨k, d⟩ ⟨g1, g2, g3⟩
    simp only at g1 g2 g3
    cases k with
    | zero =>
      rw [heapBuild] at g3
      subst g3
      have hz : decide (((0 : Nat) : Int) - 1 ≥ 0) = false := rfl
      have FX := And.intro hz hH1
      repeat' (first | refine WK.seq ?_ | refine WK.reg ?_ | refine IL.nil ?_ | refine WK.skip ?_ | refine WK.block ?_ | refine WK.exit_here ?_ | refine WK.e1 ?_ | refine WK.e2 ?_ | refine WK.drawnS (id := 10) mixed [0] [17, 19] [0, 0, 0, 0, 0, 0, 0, 0, 0, 0, 0, 0, 0, 0, 0, 0, 0, 0, 1, 1] [0, 0, 1, 1, 1, 1, 0, 0, 0, 0, 0, 0, 0, 0, 0, 0, 0, 0, 1, 1] (by decide +kernel) ?_ | refine DW.nil ?_ | (with_reducible refine IL.wr ?_ ?_; focus exact cW) | (with_reducible refine DW.wr ?_ ?_; focus exact cW) | refine IL.sgF ttok ?_ | refine DW.reF ttok ?_ | refine DW.rmF ttok ?_ | refine DW.bkF ttok ?_ | refine IL.cSF ttok ent29 [.own, .bor, .bor, .bor] false ?_ (hS := by exact hsc) | (refine WK.cn (fun h => ?_) (fun h => ?_); all_goals first | (simp only [reduceCtorEq] at h; done) | (simp only [hsA, hsD, hsE, ne_eq] at h; first | done | (exfalso; omega; done) | skip) | skip))
      refine WK.whileS (α := Nat × Array Int) (fun x => x.1) (fun x => x.1 ≤ H ∧ x.2.size = n ∧ heapPop ltInt a x.1 x.2 = r) (fun x => ⟨56, [(0, .sl 0 0 0 n), (6, ii a), (7, ii 0), (8, ii H), (10, ii ((x.1 : Int) - 1))], [some ⟨true, 24, n, true, rwC x.2, 0, false⟩]⟩) (H, d) ⟨⟨Nat.le_refl _, g2, hr⟩, ?_⟩ ?_
      · (refine Weak.renP 1 [0] hfx (fun k h => of_decide_eq_true h) (fun k hk => by obtain rfl : k = 0 := (by omega); exact ⟨rfl, _, rfl, rfl⟩) rfl ?_ ?_ rfl <;> (simp only [go_sem, reduceIte, exists_eq_left', exists_eq_left, Blk.mk.injEq, hH1] <;> (try and_intros) <;> first | rfl | omega))
      · rintro ⟨k, d⟩ ⟨f1, f2, f3⟩
        simp only at f1 f2 f3
        cases k with
        | zero =>
          rw [heapPop] at f3
          subst f3
          have FX := hz
          repeat' (first | refine WK.seq ?_ | refine WK.reg ?_ | refine IL.nil ?_ | refine WK.skip ?_ | refine WK.block ?_ | refine WK.exit_here ?_ | refine WK.e1 ?_ | refine WK.e2 ?_ | refine WK.drawnS (id := 10) mixed [0] [17, 19] [0, 0, 0, 0, 0, 0, 0, 0, 0, 0, 0, 0, 0, 0, 0, 0, 0, 0, 1, 1] [0, 0, 1, 1, 1, 1, 0, 0, 0, 0, 0, 0, 0, 0, 0, 0, 0, 0, 1, 1] (by decide +kernel) ?_ | refine DW.nil ?_ | (with_reducible refine IL.wr ?_ ?_; focus exact cW) | (with_reducible refine DW.wr ?_ ?_; focus exact cW) | refine IL.sgF ttok ?_ | refine DW.reF ttok ?_ | refine DW.rmF ttok ?_ | refine DW.bkF ttok ?_ | refine IL.cSF ttok ent29 [.own, .bor, .bor, .bor] false ?_ (hS := by exact hsc) | (refine WK.cn (fun h => ?_) (fun h => ?_); all_goals first | (simp only [reduceCtorEq] at h; done) | (simp only [hsA, hsD, hsE, ne_eq] at h; first | done | (exfalso; omega; done) | skip) | skip))
          all_goals try ((first | refine WK.ret ⟨.inr rfl, ?_⟩ | refine ⟨.inl rfl, ?_⟩ | refine ⟨.inl trivial, ?_⟩); refine Fin.o ?_ ?_ (h1 := by first | rfl | (simp only [go_sem, show Try.f19.results.toList = [] from rfl, reduceIte] <;> rfl)); rotate_left 1; (focus (first | rfl | skip)); all_goals try with_reducible rfl)
          all_goals skip
        | succ k =>
          rw [heapPop] at f3
          have e1 : (rwC d)[a]? = some (uv d[a]!) := rwC_at (by omega)
          have e2 : (rwC d)[a + k]? = some (uv d[a + k]!) := rwC_at (by omega)
          have hsw := rwC_swp (d := d) (i := a) (j := a + k) (by omega) (by omega)
          have hs2 := swp_size d a (a + k)
          have hl := rwC_len d
          rw [f2] at hl hs2
          have hl2 : ((rwC d).set a (uv d[a + k]!)).length = n := by rw [List.length_set]; exact hl
          have hf : (a : Int) + (k : Int) = ((a + k : Nat) : Int) := by omega
          have hw : ((k + 1 : Nat) : Int) - 1 = (k : Int) := by omega
          have hk0 : decide ((k : Int) ≥ 0) = true := decide_eq_true (by omega)
          have b2 : a + k < n := by omega
          have b1 : a < n := by omega
          have hsc := sift_call (swp d a (a + k)) n 0 k a hs2 (by omega) (by omega) hsz
          have hsz2 := siftDown_size k a k 0 (swp d a (a + k)) (by omega)
          rw [hs2] at hsz2
          rw [show (((0 : Nat) : Int)) = 0 from rfl] at hsc
          generalize siftDown ltInt k a 0 (swp d a (a + k)) = d3 at *
          generalize swp d a (a + k) = d2 at *
          generalize rwC d = D at *
          generalize d[a]! = x at *
          generalize d[a + k]! = y at *
          generalize ((k + 1 : Nat) : Int) = kk at *
          generalize a + k = q at *
          have FX := And.intro hw (And.intro e1 (And.intro e2 (And.intro hsw (And.intro hl (And.intro hl2 (And.intro hf (And.intro hk0 hn0)))))))
          repeat' (first | refine WK.seq ?_ | refine WK.reg ?_ | refine IL.nil ?_ | refine WK.skip ?_ | refine WK.block ?_ | refine WK.exit_here ?_ | refine WK.e1 ?_ | refine WK.e2 ?_ | refine WK.drawnS (id := 10) mixed [0] [17, 19] [0, 0, 0, 0, 0, 0, 0, 0, 0, 0, 0, 0, 0, 0, 0, 0, 0, 0, 1, 1] [0, 0, 1, 1, 1, 1, 0, 0, 0, 0, 0, 0, 0, 0, 0, 0, 0, 0, 1, 1] (by decide +kernel) ?_ | refine DW.nil ?_ | (with_reducible refine IL.wr ?_ ?_; focus exact cW) | (with_reducible refine DW.wr ?_ ?_; focus exact cW) | refine IL.sgF ttok ?_ | refine DW.reF ttok ?_ | refine DW.rmF ttok ?_ | refine DW.bkF ttok ?_ | refine IL.cSF ttok ent29 [.own, .bor, .bor, .bor] false ?_ (hS := by exact hsc) | (refine WK.cn (fun h => ?_) (fun h => ?_); all_goals first | (simp only [reduceCtorEq] at h; done) | (simp only [hsA, hsD, hsE, ne_eq] at h; first | done | (exfalso; omega; done) | skip) | skip))
          refine ⟨(k, d3), by simp only; omega, ⟨by simp only; omega, hsz2, f3⟩, ?_⟩
          (refine Weak.renP 1 [0] hfx (fun k h => of_decide_eq_true h) (fun k hk => by obtain rfl : k = 0 := (by omega); exact ⟨rfl, _, rfl, rfl⟩) rfl ?_ ?_ rfl <;> (simp only [go_sem, reduceIte, exists_eq_left', exists_eq_left, Blk.mk.injEq, hw] <;> (try and_intros) <;> first | rfl | omega))
    | succ k =>
      rw [heapBuild] at g3
      have hw : ((k + 1 : Nat) : Int) - 1 = (k : Int) := by omega
      have hk0 : decide ((k : Int) ≥ 0) = true := decide_eq_true (by omega)
      have hsc := sift_call d n k H a g2 (by omega) hh2 hsz
      have hsz2 := siftDown_size H a (H - k) k d (Nat.le_refl _)
      rw [g2] at hsz2
      generalize siftDown ltInt H a k d = d3 at *
      generalize ((k + 1 : Nat) : Int) = kk at *
      have FX := And.intro hw (And.intro hk0 hn0)
      repeat' (first | refine WK.seq ?_ | refine WK.reg ?_ | refine IL.nil ?_ | refine WK.skip ?_ | refine WK.block ?_ | refine WK.exit_here ?_ | refine WK.e1 ?_ | refine WK.e2 ?_ | refine WK.drawnS (id := 10) mixed [0] [17, 19] [0, 0, 0, 0, 0, 0, 0, 0, 0, 0, 0, 0, 0, 0, 0, 0, 0, 0, 1, 1] [0, 0, 1, 1, 1, 1, 0, 0, 0, 0, 0, 0, 0, 0, 0, 0, 0, 0, 1, 1] (by decide +kernel) ?_ | refine DW.nil ?_ | (with_reducible refine IL.wr ?_ ?_; focus exact cW) | (with_reducible refine DW.wr ?_ ?_; focus exact cW) | refine IL.sgF ttok ?_ | refine DW.reF ttok ?_ | refine DW.rmF ttok ?_ | refine DW.bkF ttok ?_ | refine IL.cSF ttok ent29 [.own, .bor, .bor, .bor] false ?_ (hS := by exact hsc) | (refine WK.cn (fun h => ?_) (fun h => ?_); all_goals first | (simp only [reduceCtorEq] at h; done) | (simp only [hsA, hsD, hsE, ne_eq] at h; first | done | (exfalso; omega; done) | skip) | skip))
      refine ⟨(k, d3), by simp only; omega, ⟨by simp only; omega, hsz2, g3⟩, ?_⟩
      (refine Weak.renP 1 [0] hfx (fun k h => of_decide_eq_true h) (fun k hk => by obtain rfl : k = 0 := (by omega); exact ⟨rfl, _, rfl, rfl⟩) rfl ?_ ?_ rfl <;> (simp only [go_sem, reduceIte, exists_eq_left', exists_eq_left, Blk.mk.injEq, hw] <;> (try and_intros) <;> first | rfl | omega))
end Go.Proofs.Ythneocdjknhgdaa.Su
/- slices.Sort at uint32: order2, median, medianAdjacent, choosePivot. -/
namespace Go.Proofs.Ythneocdjknhgdaa.Su
open Go Go.Lift Go.Sort
set_option maxHeartbeats 4000000
set_option linter.unusedSimpArgs false
set_option linter.unusedVariables false
attribute [local irreducible] WK IL IP IG IW DW

abbrev uT (n : Nat) (d : Array Int) : IV := .tr n (rwC d)
theorem rwC_ne {d : Array Int} {i : Nat} (h : i < d.size) : rwC d ≠ [] := by
  intro e
  have := rwC_len d
  rw [e] at this
  simp at this; omega
theorem order2_call (d : Array Int) (n a b s : Nat) (hn : d.size = n) (ha : a < n) (hb : b < n) (hs : s ≤ 1000) (hsz : n ≤ 1000000) :
    SCall Try.prog 35 [uT n d, ii a, ii b, .obj [ii s]] (.tup [ii (order2 ltInt d a b s).1, ii (order2 ltInt d a b s).2.1]) [uT n d, ii a, ii b, .obj [ii (order2 ltInt d a b s).2.2]] := by
  have e1 : (rwC d)[a]? = some (uv d[a]!) := rwC_at (by omega)
  have e2 : (rwC d)[b]? = some (uv d[b]!) := rwC_at (by omega)
  have hne := rwC_ne (d := d) (i := a) (by omega)
  have hl := rwC_len d
  rw [hn] at hl
  unfold order2 uT
  have hw : (s : Int) + 1 = ((s + 1 : Nat) : Int) := by omega
  generalize d[a]! = x at *
  generalize d[b]! = y at *
  generalize rwC d = D at *
  by_cases h : ltInt y x = true
  · rw [if_pos h]
    generalize s + 1 = s1 at *
    refine SCall.of_body' (TT := TT) (fun k => decide (k < 1)) [false, false, false, false] ttok Try.func35 rfl (Nat.le_of_ble_eq_true rfl) rfl fun fx hfx => WK.top ?_
    simp only [impl, imp, argT, List.append_nil, List.map_nil, List.map_cons, List.nil_append, List.cons_append, List.length_cons, List.length_nil, show Try.f35.ntmps = 28 from rfl, Nat.zero_add, Nat.reduceAdd]
    have FX := And.intro e1 (And.intro e2 (And.intro hne (And.intro hl (And.intro h hw))))
    repeat' (first | refine WK.seq ?_ | refine WK.reg ?_ | refine IL.nil ?_ | refine WK.skip ?_ | refine WK.drawnS (id := 1) mixed [] [8] [0, 0, 0, 0, 0, 0, 0, 0, 0] [0, 0, 0, 0, 0, 0, 0, 0, 0] (by decide +kernel) ?_ | refine DW.nil ?_ | (with_reducible refine IL.wr ?_ ?_; focus exact cW) | (with_reducible refine DW.wr ?_ ?_; focus exact cW) | refine IL.sgF ttok ?_ | refine DW.reF ttok ?_ | refine DW.rmF ttok ?_ | refine DW.cSF ttok ent24 [.bor, .bor] true ?_ (hS := by exact less_call _ _) | (refine WK.cn (fun h => ?_) (fun h => ?_); all_goals first | (simp only [reduceCtorEq] at h; done) | (simp only [hsA, hsD, hsE, ne_eq] at h; first | done | (exfalso; omega; done) | skip) | skip))
    all_goals try ((first | refine WK.ret ⟨.inr rfl, ?_⟩ | refine ⟨.inl rfl, ?_⟩ | refine ⟨.inl trivial, ?_⟩); refine Fin.o ?_ ?_ (h1 := by first | rfl | (simp only [go_sem, show Try.f35.results.toList = [.tmp 8, .tmp 9] from rfl, reduceIte] <;> rfl)); rotate_left 1; (focus (first | rfl | skip)); all_goals try with_reducible rfl)
    all_goals skip
  · rw [if_neg h]
    have h : ltInt y x = false := by simpa using h
    refine SCall.of_body' (TT := TT) (fun k => decide (k < 1)) [false, false, false, false] ttok Try.func35 rfl (Nat.le_of_ble_eq_true rfl) rfl fun fx hfx => WK.top ?_
    simp only [impl, imp, argT, List.append_nil, List.map_nil, List.map_cons, List.nil_append, List.cons_append, List.length_cons, List.length_nil, show Try.f35.ntmps = 28 from rfl, Nat.zero_add, Nat.reduceAdd]
    have FX := And.intro e1 (And.intro e2 (And.intro hne (And.intro hl h)))
    repeat' (first | refine WK.seq ?_ | refine WK.reg ?_ | refine IL.nil ?_ | refine WK.skip ?_ | refine WK.drawnS (id := 1) mixed [] [8] [0, 0, 0, 0, 0, 0, 0, 0, 0] [0, 0, 0, 0, 0, 0, 0, 0, 0] (by decide +kernel) ?_ | refine DW.nil ?_ | (with_reducible refine IL.wr ?_ ?_; focus exact cW) | (with_reducible refine DW.wr ?_ ?_; focus exact cW) | refine IL.sgF ttok ?_ | refine DW.reF ttok ?_ | refine DW.rmF ttok ?_ | refine DW.cSF ttok ent24 [.bor, .bor] true ?_ (hS := by exact less_call _ _) | (refine WK.cn (fun h => ?_) (fun h => ?_); all_goals first | (simp only [reduceCtorEq] at h; done) | (simp only [hsA, hsD, hsE, ne_eq] at h; first | done | (exfalso; omega; done) | skip) | skip))
    all_goals try ((first | refine WK.ret ⟨.inr rfl, ?_⟩ | refine ⟨.inl rfl, ?_⟩ | refine ⟨.inl trivial, ?_⟩); refine Fin.o ?_ ?_ (h1 := by first | rfl | (simp only [go_sem, show Try.f35.results.toList = [.tmp 8, .tmp 9] from rfl, reduceIte] <;> rfl)); rotate_left 1; (focus (first | rfl | skip)); all_goals try with_reducible rfl)
    all_goals skip
theorem order2_bd {d : Array Int} {n a b s : Nat} (ha : a < n) (hb : b < n) : (order2 ltInt d a b s).1 < n ∧ (order2 ltInt d a b s).2.1 < n ∧ (order2 ltInt d a b s).2.2 ≤ s + 1 := by
  unfold order2; split
  · exact ⟨hb, ha, Nat.le_refl _⟩
  · exact ⟨ha, hb, Nat.le_succ _⟩
theorem median_call (d : Array Int) (n a b c s : Nat) (hn : d.size = n) (ha : a < n) (hb : b < n) (hc : c < n) (hs : s ≤ 900) (hsz : n ≤ 1000000) :
    SCall Try.prog 33 [uT n d, ii a, ii b, ii c, .obj [ii s]] (ii (median ltInt d a b c s).1) [uT n d, ii a, ii b, ii c, .obj [ii (median ltInt d a b c s).2]] := by
  unfold median
  have o1 := order2_call d n a b s hn ha hb (by omega) hsz
  obtain ⟨b1, b2, b3⟩ := order2_bd (d := d) (n := n) (s := s) ha hb
  simp only
  generalize order2 ltInt d a b s = r1 at *
  obtain ⟨x1, y1, s1⟩ := r1
  simp only at *
  have o2 := order2_call d n y1 c s1 hn b2 hc (by omega) hsz
  obtain ⟨b4, b5, b6⟩ := order2_bd (d := d) (n := n) (s := s1) b2 hc
  generalize order2 ltInt d y1 c s1 = r2 at *
  obtain ⟨x2, y2, s2⟩ := r2
  simp only at *
  have o3 := order2_call d n x1 x2 s2 hn b1 b4 (by omega) hsz
  generalize order2 ltInt d x1 x2 s2 = r3 at *
  obtain ⟨x3, y3, s3⟩ := r3
  simp only at *
  refine SCall.of_body' (TT := TT) (fun k => decide (k < 1)) [false, false, false, false, false] ttok Try.func33 rfl (Nat.le_of_ble_eq_true rfl) rfl fun fx hfx => WK.top ?_
  simp only [impl, imp, argT, List.append_nil, List.map_nil, List.map_cons, List.nil_append, List.cons_append, List.length_cons, List.length_nil, show Try.f33.ntmps = 36 from rfl, Nat.zero_add, Nat.reduceAdd]
  repeat' (first | refine WK.seq ?_ | refine WK.reg ?_ | refine IL.nil ?_ | (with_reducible refine IL.wr ?_ ?_; focus exact cW) | refine IL.sg ttok ?_ | refine IL.cS ttok ent35 [.bor, .bor, .bor, .own] true ?_ (hS := by first | exact o1 | exact o2 | exact o3))
  all_goals try ((first | refine WK.ret ⟨.inr rfl, ?_⟩ | refine ⟨.inl rfl, ?_⟩ | refine ⟨.inl trivial, ?_⟩); refine Fin.o ?_ ?_ (h1 := by first | rfl | (simp only [go_sem, show Try.f33.results.toList = [.tmp 10] from rfl, reduceIte] <;> rfl)); rotate_left 1; (focus (first | rfl | skip)); all_goals try with_reducible rfl)
  all_goals skip
theorem median_bd {d : Array Int} {n a b c s : Nat} (ha : a < n) (hb : b < n) (hc : c < n) : (median ltInt d a b c s).1 < n ∧ (median ltInt d a b c s).2 ≤ s + 3 := by
  unfold median
  obtain ⟨b1, b2, b3⟩ := order2_bd (d := d) (n := n) (s := s) ha hb
  simp only
  generalize order2 ltInt d a b s = r1 at *
  obtain ⟨b4, b5, b6⟩ := order2_bd (d := d) (n := n) (s := r1.2.2) b2 hc
  generalize order2 ltInt d r1.2.1 c r1.2.2 = r2 at *
  obtain ⟨b7, b8, b9⟩ := order2_bd (d := d) (n := n) (s := r2.2.2) b1 b4
  exact ⟨b8, by omega⟩
theorem medadj_call (d : Array Int) (n a s : Nat) (hn : d.size = n) (h1 : 1 ≤ a) (ha : a + 1 < n) (hs : s ≤ 900) (hsz : n ≤ 1000000) :
    SCall Try.prog 32 [uT n d, ii a, .obj [ii s]] (ii (medianAdjacent ltInt d a s).1) [uT n d, ii a, .obj [ii (medianAdjacent ltInt d a s).2]] := by
  unfold medianAdjacent
  have hmc := median_call d n (a - 1) a (a + 1) s hn (by omega) (by omega) ha hs hsz
  have hw1 : (a : Int) - 1 = ((a - 1 : Nat) : Int) := by omega
  have hw2 : (a : Int) + 1 = ((a + 1 : Nat) : Int) := by omega
  generalize median ltInt d (a - 1) a (a + 1) s = r at *
  generalize a - 1 = a1 at *
  generalize a + 1 = a2 at *
  refine SCall.of_body' (TT := TT) (fun k => decide (k < 1)) [false, false, false] ttok Try.func32 rfl (Nat.le_of_ble_eq_true rfl) rfl fun fx hfx => WK.top ?_
  simp only [impl, imp, argT, List.append_nil, List.map_nil, List.map_cons, List.nil_append, List.cons_append, List.length_cons, List.length_nil, show Try.f32.ntmps = 15 from rfl, Nat.zero_add, Nat.reduceAdd]
  have FX := And.intro hw1 hw2
  repeat' (first | refine WK.seq ?_ | refine WK.reg ?_ | refine IL.nil ?_ | (with_reducible refine IL.wr ?_ ?_; focus exact cW) | refine IL.sgF ttok ?_ | refine IL.cSF ttok ent33 [.bor, .bor, .bor, .bor, .own] true ?_ (hS := by exact hmc))
  all_goals try ((first | refine WK.ret ⟨.inr rfl, ?_⟩ | refine ⟨.inl rfl, ?_⟩ | refine ⟨.inl trivial, ?_⟩); refine Fin.o ?_ ?_ (h1 := by first | rfl | (simp only [go_sem, show Try.f32.results.toList = [.tmp 6] from rfl, reduceIte] <;> rfl)); rotate_left 1; (focus (first | rfl | skip)); all_goals try with_reducible rfl)
  all_goals skip
theorem medadj_bd {d : Array Int} {n a s : Nat} (ha : a + 1 < n) : (medianAdjacent ltInt d a s).1 < n ∧ (medianAdjacent ltInt d a s).2 ≤ s + 3 := median_bd (by omega) (by omega) ha
end Go.Proofs.Ythneocdjknhgdaa.Su
/- slices.Sort at uint32: choosePivot. -/
namespace Go.Proofs.Ythneocdjknhgdaa.Su
open Go Go.Lift Go.Sort
set_option maxHeartbeats 4000000
set_option linter.unusedSimpArgs false
set_option linter.unusedVariables false
attribute [local irreducible] WK IL IP IG IW DW

def hintI : Hint → Int
  | .unknown => 0
  | .increasing => 1
  | .decreasing => 2
theorem pivot_call (d : Array Int) (n a b : Nat) (hn : d.size = n) (hab : a < b) (hbn : b ≤ n) (hsz : n ≤ 1000000) :
    SCall Try.prog 21 [uT n d, ii a, ii b] (.tup [ii (choosePivot ltInt d a b).1, ii (hintI (choosePivot ltInt d a b).2)]) [uT n d, ii a, ii b] := by
  unfold choosePivot
  simp only
  have hl : (b : Int) - (a : Int) = ((b - a : Nat) : Int) := by omega
  have hQ : Int.tdiv ((b - a : Nat) : Int) 4 = (((b - a) / 4 : Nat) : Int) := by rw [Int.tdiv_eq_ediv_of_nonneg (by omega)]; omega
  have hQl : (b - a) / 4 * 4 ≤ b - a := by omega
  have hLn : a + (b - a) ≤ n := by omega
  have hq8 : 8 ≤ b - a → 2 ≤ (b - a) / 4 := by omega
  generalize b - a = L at *
  generalize L / 4 = Q at *
  have hi : (a : Int) + (Q : Int) * 1 = ((a + Q * 1 : Nat) : Int) := by omega
  have hj : (a : Int) + (Q : Int) * 2 = ((a + Q * 2 : Nat) : Int) := by omega
  have hk : (a : Int) + (Q : Int) * 3 = ((a + Q * 3 : Nat) : Int) := by omega
  have b1 : a + Q * 3 < n := by omega
  have b4 : a < n := by omega
  by_cases h8 : L ≥ 8
  · have g8 : decide ((L : Int) ≥ 8) = true := decide_eq_true (by omega)
    have hq2 := hq8 h8
    rw [if_pos h8]
    by_cases h50 : L ≥ 50
    · have g50 : decide ((L : Int) ≥ 50) = true := decide_eq_true (by omega)
      rw [if_pos h50]
      have hm1 := medadj_call d n (a + Q * 1) 0 hn (by omega) (by omega) (by omega) hsz
      obtain ⟨c1, c2⟩ := medadj_bd (d := d) (n := n) (a := a + Q * 1) (s := 0) (by omega)
      rw [show ((0 : Nat) : Int) = 0 from rfl] at hm1
      generalize medianAdjacent ltInt d (a + Q * 1) 0 = r1 at *
      obtain ⟨x1, s1⟩ := r1
      simp only at *
      have hm2 := medadj_call d n (a + Q * 2) s1 hn (by omega) (by omega) (by omega) hsz
      obtain ⟨c3, c4⟩ := medadj_bd (d := d) (n := n) (a := a + Q * 2) (s := s1) (by omega)
      generalize medianAdjacent ltInt d (a + Q * 2) s1 = r2 at *
      obtain ⟨x2, s2⟩ := r2
      simp only at *
      have hm3 := medadj_call d n (a + Q * 3) s2 hn (by omega) (by omega) (by omega) hsz
      obtain ⟨c5, c6⟩ := medadj_bd (d := d) (n := n) (a := a + Q * 3) (s := s2) (by omega)
      generalize medianAdjacent ltInt d (a + Q * 3) s2 = r3 at *
      obtain ⟨x3, s3⟩ := r3
      simp only at *
      have hmc := median_call d n x1 x2 x3 s3 hn c1 c3 c5 (by omega) hsz
      obtain ⟨c7, c8⟩ := median_bd (d := d) (n := n) (s := s3) c1 c3 c5
      generalize median ltInt d x1 x2 x3 s3 = r4 at *
      obtain ⟨x4, s4⟩ := r4
      simp only at *
      generalize a + Q * 1 = I at *
      generalize a + Q * 2 = J at *
      generalize a + Q * 3 = KK at *
      by_cases z0 : s4 = 0
      · subst z0
        have g0 : (((0 : Nat) : Int) == 0) = true := rfl
        refine SCall.of_body' (TT := TT) (fun _ => false) [false, false, false] ttok Try.func21 rfl (Nat.le_of_ble_eq_true rfl) rfl fun fx hfx => WK.top ?_
        simp only [impl, imp, argT, List.append_nil, List.map_nil, List.nil_append, show Try.f21.ntmps = 57 from rfl, Nat.zero_add, Nat.reduceAdd]
        have FX := And.intro hl (And.intro hQ (And.intro hi (And.intro hj (And.intro hk (And.intro g8 (And.intro g50 g0))))))
        repeat' (first | refine WK.seq ?_ | refine WK.reg ?_ | refine IL.nil ?_ | refine WK.skip ?_ | refine WK.block ?_ | (with_reducible refine IL.wr ?_ ?_; focus exact cW) | refine IL.sgF ttok ?_ | refine IL.cSF ttok ent32 [.bor, .bor, .own] true ?_ (hS := by first | exact hm1 | exact hm2 | exact hm3) | refine IL.cSF ttok ent33 [.bor, .bor, .bor, .bor, .own] true ?_ (hS := by exact hmc) | (refine WK.cn (fun h => ?_) (fun h => ?_); all_goals first | (simp only [reduceCtorEq] at h; done) | (simp only [hsA, hsD, hsE, ne_eq] at h; first | done | (exfalso; omega; done) | skip) | skip))
        all_goals try ((first | refine WK.ret ⟨.inr rfl, ?_⟩ | refine ⟨.inl rfl, ?_⟩ | refine ⟨.inl trivial, ?_⟩); refine Fin.o ?_ ?_ (h1 := by first | rfl | (simp only [go_sem, show Try.f21.results.toList = [.tmp 6, .tmp 7] from rfl, reduceIte] <;> rfl)); rotate_left 1; (focus (first | rfl | skip)); all_goals try with_reducible rfl)
        all_goals first | rfl | (simp [hintI]; done) | skip
      · have g0 : ((s4 : Int) == 0) = false := beq_eq_false_iff_ne.2 (by omega)
        by_cases z1 : s4 = 12
        · subst z1
          have g1 : (((12 : Nat) : Int) == 12) = true := rfl
          have g0 : (((12 : Nat) : Int) == 0) = false := rfl
          refine SCall.of_body' (TT := TT) (fun _ => false) [false, false, false] ttok Try.func21 rfl (Nat.le_of_ble_eq_true rfl) rfl fun fx hfx => WK.top ?_
          simp only [impl, imp, argT, List.append_nil, List.map_nil, List.nil_append, show Try.f21.ntmps = 57 from rfl, Nat.zero_add, Nat.reduceAdd]
          have FX := And.intro hl (And.intro hQ (And.intro hi (And.intro hj (And.intro hk (And.intro g8 (And.intro g50 (And.intro g0 g1)))))))
          repeat' (first | refine WK.seq ?_ | refine WK.reg ?_ | refine IL.nil ?_ | refine WK.skip ?_ | refine WK.block ?_ | (with_reducible refine IL.wr ?_ ?_; focus exact cW) | refine IL.sgF ttok ?_ | refine IL.cSF ttok ent32 [.bor, .bor, .own] true ?_ (hS := by first | exact hm1 | exact hm2 | exact hm3) | refine IL.cSF ttok ent33 [.bor, .bor, .bor, .bor, .own] true ?_ (hS := by exact hmc) | (refine WK.cn (fun h => ?_) (fun h => ?_); all_goals first | (simp only [reduceCtorEq] at h; done) | (simp only [hsA, hsD, hsE, ne_eq] at h; first | done | (exfalso; omega; done) | skip) | skip))
          all_goals try ((first | refine WK.ret ⟨.inr rfl, ?_⟩ | refine ⟨.inl rfl, ?_⟩ | refine ⟨.inl trivial, ?_⟩); refine Fin.o ?_ ?_ (h1 := by first | rfl | (simp only [go_sem, show Try.f21.results.toList = [.tmp 6, .tmp 7] from rfl, reduceIte] <;> rfl)); rotate_left 1; (focus (first | rfl | skip)); all_goals try with_reducible rfl)
          all_goals first | rfl | (simp [hintI]; done) | skip
        · have g1 : ((s4 : Int) == 12) = false := beq_eq_false_iff_ne.2 (by omega)
          rw [if_neg z0, if_neg z1]
          refine SCall.of_body' (TT := TT) (fun _ => false) [false, false, false] ttok Try.func21 rfl (Nat.le_of_ble_eq_true rfl) rfl fun fx hfx => WK.top ?_
          simp only [impl, imp, argT, List.append_nil, List.map_nil, List.nil_append, show Try.f21.ntmps = 57 from rfl, Nat.zero_add, Nat.reduceAdd]
          have FX := And.intro hl (And.intro hQ (And.intro hi (And.intro hj (And.intro hk (And.intro g8 (And.intro g50 (And.intro g0 g1)))))))
          repeat' (first | refine WK.seq ?_ | refine WK.reg ?_ | refine IL.nil ?_ | refine WK.skip ?_ | refine WK.block ?_ | (with_reducible refine IL.wr ?_ ?_; focus exact cW) | refine IL.sgF ttok ?_ | refine IL.cSF ttok ent32 [.bor, .bor, .own] true ?_ (hS := by first | exact hm1 | exact hm2 | exact hm3) | refine IL.cSF ttok ent33 [.bor, .bor, .bor, .bor, .own] true ?_ (hS := by exact hmc) | (refine WK.cn (fun h => ?_) (fun h => ?_); all_goals first | (simp only [reduceCtorEq] at h; done) | (simp only [hsA, hsD, hsE, ne_eq] at h; first | done | (exfalso; omega; done) | skip) | skip))
          all_goals try ((first | refine WK.ret ⟨.inr rfl, ?_⟩ | refine ⟨.inl rfl, ?_⟩ | refine ⟨.inl trivial, ?_⟩); refine Fin.o ?_ ?_ (h1 := by first | rfl | (simp only [go_sem, show Try.f21.results.toList = [.tmp 6, .tmp 7] from rfl, reduceIte] <;> rfl)); rotate_left 1; (focus (first | rfl | skip)); all_goals try with_reducible rfl)
          all_goals first | rfl | (simp [hintI]; done) | skip
    · have g50 : decide ((L : Int) ≥ 50) = false := decide_eq_false (by omega)
      rw [if_neg h50]
      have hmc := median_call d n (a + Q * 1) (a + Q * 2) (a + Q * 3) 0 hn (by omega) (by omega) (by omega) (by omega) hsz
      obtain ⟨c7, c8⟩ := median_bd (d := d) (n := n) (a := a + Q * 1) (b := a + Q * 2) (c := a + Q * 3) (s := 0) (by omega) (by omega) (by omega)
      rw [show ((0 : Nat) : Int) = 0 from rfl] at hmc
      generalize median ltInt d (a + Q * 1) (a + Q * 2) (a + Q * 3) 0 = r4 at *
      obtain ⟨x4, s4⟩ := r4
      simp only at *
      generalize a + Q * 1 = I at *
      generalize a + Q * 2 = J at *
      generalize a + Q * 3 = KK at *
      by_cases z0 : s4 = 0
      · subst z0
        have g0 : (((0 : Nat) : Int) == 0) = true := rfl
        refine SCall.of_body' (TT := TT) (fun _ => false) [false, false, false] ttok Try.func21 rfl (Nat.le_of_ble_eq_true rfl) rfl fun fx hfx => WK.top ?_
        simp only [impl, imp, argT, List.append_nil, List.map_nil, List.nil_append, show Try.f21.ntmps = 57 from rfl, Nat.zero_add, Nat.reduceAdd]
        have FX := And.intro hl (And.intro hQ (And.intro hi (And.intro hj (And.intro hk (And.intro g8 (And.intro g50 g0))))))
        repeat' (first | refine WK.seq ?_ | refine WK.reg ?_ | refine IL.nil ?_ | refine WK.skip ?_ | refine WK.block ?_ | (with_reducible refine IL.wr ?_ ?_; focus exact cW) | refine IL.sgF ttok ?_ | refine IL.cSF ttok ent32 [.bor, .bor, .own] true ?_ (hS := by first | exact hm1 | exact hm2 | exact hm3) | refine IL.cSF ttok ent33 [.bor, .bor, .bor, .bor, .own] true ?_ (hS := by exact hmc) | (refine WK.cn (fun h => ?_) (fun h => ?_); all_goals first | (simp only [reduceCtorEq] at h; done) | (simp only [hsA, hsD, hsE, ne_eq] at h; first | done | (exfalso; omega; done) | skip) | skip))
        all_goals try ((first | refine WK.ret ⟨.inr rfl, ?_⟩ | refine ⟨.inl rfl, ?_⟩ | refine ⟨.inl trivial, ?_⟩); refine Fin.o ?_ ?_ (h1 := by first | rfl | (simp only [go_sem, show Try.f21.results.toList = [.tmp 6, .tmp 7] from rfl, reduceIte] <;> rfl)); rotate_left 1; (focus (first | rfl | skip)); all_goals try with_reducible rfl)
        all_goals first | rfl | (simp [hintI]; done) | skip
      · have g0 : ((s4 : Int) == 0) = false := beq_eq_false_iff_ne.2 (by omega)
        have g1 : ((s4 : Int) == 12) = false := beq_eq_false_iff_ne.2 (by omega)
        rw [if_neg z0, if_neg (by omega)]
        refine SCall.of_body' (TT := TT) (fun _ => false) [false, false, false] ttok Try.func21 rfl (Nat.le_of_ble_eq_true rfl) rfl fun fx hfx => WK.top ?_
        simp only [impl, imp, argT, List.append_nil, List.map_nil, List.nil_append, show Try.f21.ntmps = 57 from rfl, Nat.zero_add, Nat.reduceAdd]
        have FX := And.intro hl (And.intro hQ (And.intro hi (And.intro hj (And.intro hk (And.intro g8 (And.intro g50 (And.intro g0 g1)))))))
        repeat' (first | refine WK.seq ?_ | refine WK.reg ?_ | refine IL.nil ?_ | refine WK.skip ?_ | refine WK.block ?_ | (with_reducible refine IL.wr ?_ ?_; focus exact cW) | refine IL.sgF ttok ?_ | refine IL.cSF ttok ent32 [.bor, .bor, .own] true ?_ (hS := by first | exact hm1 | exact hm2 | exact hm3) | refine IL.cSF ttok ent33 [.bor, .bor, .bor, .bor, .own] true ?_ (hS := by exact hmc) | (refine WK.cn (fun h => ?_) (fun h => ?_); all_goals first | (simp only [reduceCtorEq] at h; done) | (simp only [hsA, hsD, hsE, ne_eq] at h; first | done | (exfalso; omega; done) | skip) | skip))
        all_goals try ((first | refine WK.ret ⟨.inr rfl, ?_⟩ | refine ⟨.inl rfl, ?_⟩ | refine ⟨.inl trivial, ?_⟩); refine Fin.o ?_ ?_ (h1 := by first | rfl | (simp only [go_sem, show Try.f21.results.toList = [.tmp 6, .tmp 7] from rfl, reduceIte] <;> rfl)); rotate_left 1; (focus (first | rfl | skip)); all_goals try with_reducible rfl)
        all_goals first | rfl | (simp [hintI]; done) | skip
  · have g8 : decide ((L : Int) ≥ 8) = false := decide_eq_false (by omega)
    rw [if_neg h8]
    simp only
    generalize a + Q * 1 = I at *
    generalize a + Q * 2 = J at *
    generalize a + Q * 3 = KK at *
    refine SCall.of_body' (TT := TT) (fun _ => false) [false, false, false] ttok Try.func21 rfl (Nat.le_of_ble_eq_true rfl) rfl fun fx hfx => WK.top ?_
    simp only [impl, imp, argT, List.append_nil, List.map_nil, List.nil_append, show Try.f21.ntmps = 57 from rfl, Nat.zero_add, Nat.reduceAdd]
    have FX := And.intro hl (And.intro hQ (And.intro hi (And.intro hj (And.intro hk g8))))
    repeat' (first | refine WK.seq ?_ | refine WK.reg ?_ | refine IL.nil ?_ | refine WK.skip ?_ | refine WK.block ?_ | (with_reducible refine IL.wr ?_ ?_; focus exact cW) | refine IL.sgF ttok ?_ | refine IL.cSF ttok ent32 [.bor, .bor, .own] true ?_ (hS := by first | exact hm1 | exact hm2 | exact hm3) | refine IL.cSF ttok ent33 [.bor, .bor, .bor, .bor, .own] true ?_ (hS := by exact hmc) | (refine WK.cn (fun h => ?_) (fun h => ?_); all_goals first | (simp only [reduceCtorEq] at h; done) | (simp only [hsA, hsD, hsE, ne_eq] at h; first | done | (exfalso; omega; done) | skip) | skip))
    all_goals try ((first | refine WK.ret ⟨.inr rfl, ?_⟩ | refine ⟨.inl rfl, ?_⟩ | refine ⟨.inl trivial, ?_⟩); refine Fin.o ?_ ?_ (h1 := by first | rfl | (simp only [go_sem, show Try.f21.results.toList = [.tmp 6, .tmp 7] from rfl, reduceIte] <;> rfl)); rotate_left 1; (focus (first | rfl | skip)); all_goals try with_reducible rfl)
    all_goals first | rfl | (simp [hintI]; done) | skip
end Go.Proofs.Ythneocdjknhgdaa.Su
/- slices.Sort at uint32: bits.Len, nextPowerOfTwo, xorshift. -/
namespace Go.Proofs.Ythneocdjknhgdaa.Su
open Go Go.Lift Go.Sort
set_option maxHeartbeats 4000000
set_option linter.unusedSimpArgs false
set_option linter.unusedVariables false
attribute [local irreducible] WK IL IP IG IW DW

theorem IL.strIx {P : Program} {TT : TTab} {fx : Fx} {ops : Array Oper} {rs : List Oper} {N d : Nat} {T : List (Nat × IV)} {L : List (Option Blk)} {o : Oper} {K : St → Prop} {t : TypeId} {y : Operand} {i : TI} {s : ByteArray} {k : IntKind} {J V : Int} (htt : TTok P TT) (ht : TT t = some i) (hd : i.desc = .str) (hJ : 0 ≤ J ∧ J < s.size)
    (hv : (((s.data.toList.getD J.toNat 0).toNat : Nat) : Int) = V) (hr : IL P fx ops rs K ⟨N, (d, .v (.int .u8 V)) :: T, L⟩) (ho : o.op = .index t (.const (.string s)) y := by rfl) (hy : ev ⟨N, T, L⟩ y = some (.v (.int k J)) := by rfl) (hg : Gok ops ⟨N, T, L⟩ o := by exact .inl rfl) (hdd : o.dst = some d := by rfl) (hdN : d < N := by exact Nat.le_of_ble_eq_true rfl) : IL P fx ops (o :: rs) K ⟨N, T, L⟩ :=
  IL.ok hg (IP.of_step htt (by
    unfold stepOp
    rw [ho]
    have h1 : ev ⟨N, T, L⟩ (.const (.string s)) = some (.v (.string s)) := rfl
    simp only [ht, ob_some, h1, hy, hd]
    exact ⟨hJ, by rw [hv]; exact fin_to hdd hdN hr⟩))
theorem bitsLen_u8 (x : Nat) (h : x < 256) : bitsLen x ≤ 8 := by
  have : ∀ x : Fin 256, bitsLen x.1 ≤ 8 := by decide +kernel
  exact this ⟨x, h⟩
def tbl8 : List UInt8 := [0, 1] ++ List.replicate 2 2 ++ List.replicate 4 3 ++ List.replicate 8 4 ++ List.replicate 16 5 ++ List.replicate 32 6 ++ List.replicate 64 7 ++ List.replicate 128 8
theorem tbl8_at : ∀ x : Fin 256, (tbl8.getD x.1 0).toNat = bitsLen x.1 := by decide +kernel
theorem tbl8_size : (⟨tbl8.toArray⟩ : ByteArray).size = 256 := by decide +kernel
set_option maxRecDepth 100000 in
theorem len64_call (x : Nat) (hx : x < 256) : SCall Try.prog 28 [.v (.int .u64 x)] (ii (bitsLen x)) [.v (.int .u64 x)] := by
  have g1 : decide ((x : Int) ≥ 4294967296) = false := decide_eq_false (by omega)
  have g2 : decide ((x : Int) ≥ 65536) = false := decide_eq_false (by omega)
  have g3 : decide ((x : Int) ≥ 256) = false := decide_eq_false (by omega)
  refine SCall.of_body' (TT := TT) (fun _ => false) [false] ttok Try.func28 rfl (Nat.le_of_ble_eq_true rfl) rfl fun fx hfx => WK.top ?_
  simp only [impl, imp, argT, List.append_nil, List.map_nil, List.nil_append, show Try.f28.ntmps = 25 from rfl, Nat.zero_add, Nat.reduceAdd]
  have FX := And.intro g1 (And.intro g2 g3)
  repeat' (first | refine WK.seq ?_ | refine WK.reg ?_ | refine IL.nil ?_ | refine WK.skip ?_ | (with_reducible refine IL.wr ?_ ?_; focus exact cW) | refine IL.sgF ttok ?_ | (refine WK.cn (fun h => ?_) (fun h => ?_); all_goals first | (simp only [reduceCtorEq] at h; done) | (simp only [hsA, hsD, hsE, ne_eq] at h; first | done | (exfalso; omega; done) | skip) | skip))
  refine IL.strIx (s := ⟨tbl8.toArray⟩) (J := (x : Int)) (V := (bitsLen x : Nat)) ttok rfl rfl ⟨by omega, by rw [tbl8_size]; omega⟩ (by rw [Int.toNat_natCast]; exact congrArg (fun n : Nat => (n : Int)) (tbl8_at ⟨x, hx⟩)) ?_
  have hb := bitsLen_u8 x hx
  generalize bitsLen x = B at *
  repeat' (first | refine WK.seq ?_ | refine WK.reg ?_ | refine IL.nil ?_ | refine WK.skip ?_ | (with_reducible refine IL.wr ?_ ?_; focus exact cW) | refine IL.sg ttok ?_ | (refine WK.cn (fun h => ?_) (fun h => ?_); all_goals first | (simp only [reduceCtorEq] at h; done) | (simp only [hsA, hsD, hsE, ne_eq] at h; first | done | (exfalso; omega; done) | skip) | skip))
  all_goals try ((first | refine WK.ret ⟨.inr rfl, ?_⟩ | refine ⟨.inl rfl, ?_⟩ | refine ⟨.inl trivial, ?_⟩); refine Fin.o ?_ ?_ (h1 := by first | rfl | (simp only [go_sem, show Try.f28.results.toList = [.tmp 2] from rfl, reduceIte] <;> rfl)); rotate_left 1; (focus (first | rfl | skip)); all_goals try with_reducible rfl)
  all_goals first | rfl | (simp; done) | skip
theorem xor_call (X : Nat) (hX : X < 18446744073709551616) : SCall Try.prog 31 [.obj [.v (.int .u64 X)]] (.v (.int .u64 (xorNextN X : Nat))) [.obj [.v (.int .u64 (xorNextN X : Nat))]] := by
  obtain ⟨A, hA⟩ : ∃ A : Nat, A = X ^^^ (X * 8192 % 18446744073709551616) := ⟨_, rfl⟩
  obtain ⟨B, hB⟩ : ∃ B : Nat, B = A ^^^ (A / 128) := ⟨_, rfl⟩
  obtain ⟨C, hC⟩ : ∃ C : Nat, C = B ^^^ (B * 131072 % 18446744073709551616) := ⟨_, rfl⟩
  have lA : A < 18446744073709551616 := by rw [hA]; exact Nat.xor_lt_two_pow (n := 64) (by omega) (by omega)
  have lB : B < 18446744073709551616 := by rw [hB]; exact Nat.xor_lt_two_pow (n := 64) (by omega) (by omega)
  have e1 : bits .xor .u64 (X : Int) (IntKind.u64.wrap ((X : Int) * 2 ^ min 13 64)) = (A : Int) := by
    rw [show ((2 : Int) ^ min 13 64) = 8192 from rfl, IntKind.wrap_u64, show ((X : Int) * 8192 % 18446744073709551616) = ((X * 8192 % 18446744073709551616 : Nat) : Int) by omega, bits_xor_u64_nat _ _ hX (by omega), hA]
  have e2 : bits .xor .u64 (A : Int) ((A : Int).fdiv (2 ^ min 7 64)) = (B : Int) := by
    rw [show ((2 : Int) ^ min 7 64) = 128 from rfl, Int.fdiv_eq_ediv_of_nonneg _ (by decide), show ((A : Int) / 128) = ((A / 128 : Nat) : Int) by omega, bits_xor_u64_nat _ _ lA (by omega), hB]
  have e3 : bits .xor .u64 (B : Int) (IntKind.u64.wrap ((B : Int) * 2 ^ min 17 64)) = (C : Int) := by
    rw [show ((2 : Int) ^ min 17 64) = 131072 from rfl, IntKind.wrap_u64, show ((B : Int) * 131072 % 18446744073709551616) = ((B * 131072 % 18446744073709551616 : Nat) : Int) by omega, bits_xor_u64_nat _ _ lB (by omega), hC]
  have hv : xorNextN X = C := by unfold xorNextN; simp only []; rw [← hA, ← hB, ← hC]
  rw [hv]
  clear hA hB hC hv
  refine SCall.of_body' (TT := TT) (fun k => decide (k < 1)) [false] ttok Try.func31 rfl (Nat.le_of_ble_eq_true rfl) rfl fun fx hfx => WK.top ?_
  simp only [impl, imp, argT, List.append_nil, List.map_nil, List.map_cons, List.nil_append, List.cons_append, List.length_cons, List.length_nil, show Try.f31.ntmps = 33 from rfl, Nat.zero_add, Nat.reduceAdd]
  have FX := And.intro e1 (And.intro e2 e3)
  repeat' (first | refine WK.seq ?_ | refine WK.reg ?_ | refine IL.nil ?_ | refine WK.drawnS (id := 1) mixed [] [9] [0, 0, 0, 0, 0, 0, 0, 0, 0, 0] [0, 0, 0, 0, 0, 0, 0, 0, 0, 0] (by decide +kernel) ?_ | refine WK.drawnS (id := 2) mixed [] [9] [0, 0, 0, 0, 0, 0, 0, 0, 0, 0] [0, 0, 0, 0, 0, 0, 0, 0, 0, 0] (by decide +kernel) ?_ | refine WK.drawnS (id := 3) mixed [] [9] [0, 0, 0, 0, 0, 0, 0, 0, 0, 0] [0, 0, 0, 0, 0, 0, 0, 0, 0, 0] (by decide +kernel) ?_ | refine DW.nil ?_ | (with_reducible refine IL.wr ?_ ?_; focus exact cW) | (with_reducible refine DW.wr ?_ ?_; focus exact cW) | refine IL.sgF ttok ?_ | refine DW.reF ttok ?_ | refine DW.rmF ttok ?_ | refine DW.bkF ttok ?_)
  all_goals try ((first | refine WK.ret ⟨.inr rfl, ?_⟩ | refine ⟨.inl rfl, ?_⟩ | refine ⟨.inl trivial, ?_⟩); refine Fin.o ?_ ?_ (h1 := by first | rfl | (simp only [go_sem, show Try.f31.results.toList = [.tmp 2] from rfl, reduceIte] <;> rfl)); rotate_left 1; (focus (first | rfl | skip)); all_goals try with_reducible rfl)
  all_goals skip
theorem len_call (x : Nat) (hx : x < 256) : SCall Try.prog 17 [.v (.int .u64 x)] (ii (bitsLen x)) [.v (.int .u64 x)] := by
  refine SCall.of_body' (TT := TT) (fun _ => false) [false] ttok Try.func17 rfl (Nat.le_of_ble_eq_true rfl) rfl fun fx hfx => WK.top ?_
  simp only [impl, imp, argT, List.append_nil, List.map_nil, List.nil_append, show Try.f17.ntmps = 8 from rfl, Nat.zero_add, Nat.reduceAdd]
  repeat' (first | refine WK.seq ?_ | refine WK.reg ?_ | refine IL.nil ?_ | refine WK.skip ?_ | (with_reducible refine IL.wr ?_ ?_; focus exact cW) | refine IL.sg ttok ?_ | refine IL.cS ttok ent28 [.bor] true ?_ (hS := by exact len64_call _ hx) | (refine WK.cn (fun h => ?_) (fun h => ?_); all_goals first | (simp only [reduceCtorEq] at h; done) | (simp only [hsA, hsD, hsE, ne_eq] at h; first | done | (exfalso; omega; done) | skip) | skip))
  all_goals try ((first | refine WK.ret ⟨.inr rfl, ?_⟩ | refine ⟨.inl rfl, ?_⟩ | refine ⟨.inl trivial, ?_⟩); refine Fin.o ?_ ?_ (h1 := by first | rfl | (simp only [go_sem, show Try.f17.results.toList = [.tmp 2] from rfl, reduceIte] <;> rfl)); rotate_left 1; (focus (first | rfl | skip)); all_goals try with_reducible rfl)
  all_goals skip
theorem npt_call (x : Nat) (hx : x < 256) : SCall Try.prog 30 [ii x] (.v (.int .u64 ((1 <<< bitsLen x : Nat) : Int))) [ii x] := by
  have hb := bitsLen_u8 x hx
  have h1 : IntKind.u64.wrap (1 * 2 ^ min (bitsLen x) 64) = ((1 <<< bitsLen x : Nat) : Int) := by
    have : ∀ b : Fin 9, IntKind.u64.wrap (1 * 2 ^ min b.1 64) = ((1 <<< b.1 : Nat) : Int) := by decide +kernel
    exact this ⟨bitsLen x, by omega⟩
  have h2 : 0 ≤ ((bitsLen x : Nat) : Int) := by omega
  refine SCall.of_body' (TT := TT) (fun _ => false) [false] ttok Try.func30 rfl (Nat.le_of_ble_eq_true rfl) rfl fun fx hfx => WK.top ?_
  simp only [impl, imp, argT, List.append_nil, List.map_nil, List.nil_append, show Try.f30.ntmps = 7 from rfl, Nat.zero_add, Nat.reduceAdd]
  have FX := And.intro h1 h2
  repeat' (first | refine WK.seq ?_ | refine WK.reg ?_ | refine IL.nil ?_ | (with_reducible refine IL.wr ?_ ?_; focus exact cW) | refine IL.sgF ttok ?_ | refine IL.cSF ttok ent17 [.bor] true ?_ (hS := by exact len_call _ hx))
  all_goals try ((first | refine WK.ret ⟨.inr rfl, ?_⟩ | refine ⟨.inl rfl, ?_⟩ | refine ⟨.inl trivial, ?_⟩); refine Fin.o ?_ ?_ (h1 := by first | rfl | (simp only [go_sem, show Try.f30.results.toList = [.tmp 2] from rfl, reduceIte] <;> rfl)); rotate_left 1; (focus (first | rfl | skip)); all_goals try with_reducible rfl)
  all_goals skip
end Go.Proofs.Ythneocdjknhgdaa.Su
/- slices.Sort at uint32: breakPatterns. -/
namespace Go.Proofs.Ythneocdjknhgdaa.Su
open Go Go.Lift Go.Sort
set_option maxHeartbeats 4000000
set_option linter.unusedSimpArgs false
set_option linter.unusedVariables false
attribute [local irreducible] WK IL IP IG IW DW

def bsO (L M r : Nat) : Nat := if r &&& (M - 1) ≥ L then (r &&& (M - 1)) - L else r &&& (M - 1)
def bsN (a L M i0 X0 : Nat) (d : Array Int) : Nat → Nat × Array Int
  | 0 => (X0, d)
  | k + 1 => (xorNextN (bsN a L M i0 X0 d k).1, swp (bsN a L M i0 X0 d k).2 (i0 + k) (a + bsO L M (xorNextN (bsN a L M i0 X0 d k).1)))
theorem bsN_size (a L M i0 X0 : Nat) (d : Array Int) : ∀ k, (bsN a L M i0 X0 d k).2.size = d.size
  | 0 => rfl
  | k + 1 => by rw [bsN, swp_size, bsN_size a L M i0 X0 d k]
theorem bsN_lt (a L M i0 X0 : Nat) (d : Array Int) (h : X0 < 18446744073709551616) : ∀ k, (bsN a L M i0 X0 d k).1 < 18446744073709551616
  | 0 => h
  | k + 1 => xorNextN_lt _ (bsN_lt a L M i0 X0 d h k)
theorem breakStep_N (a L M : Nat) (st : UInt64 × Array Int) (idx : Nat) : ((breakStep a L M st idx).1.toNat, (breakStep a L M st idx).2) = (xorNextN st.1.toNat, swp st.2 idx (a + bsO L M (xorNextN st.1.toNat))) := by
  unfold breakStep bsO
  simp only [xorNext_toNat]
theorem breakPatterns_N (d : Array Int) (a b : Nat) (h8 : b - a ≥ 8) (hL : b - a < 256) : breakPatterns d a b = (bsN a (b - a) (1 <<< bitsLen (b - a)) (a + (b - a) / 4 * 2 - 1) (b - a) d 3).2 := by
  unfold breakPatterns
  simp only
  rw [if_pos h8]
  generalize b - a = L at *
  generalize 1 <<< bitsLen L = M
  generalize a + L / 4 * 2 - 1 = i0
  have h0 : (UInt64.ofNat L).toNat = L := by simp [UInt64.toNat_ofNat']; omega
  have s1 := breakStep_N a L M (UInt64.ofNat L, d) i0
  generalize breakStep a L M (UInt64.ofNat L, d) i0 = t1 at *
  have s2 := breakStep_N a L M t1 (i0 + 1)
  generalize breakStep a L M t1 (i0 + 1) = t2 at *
  have s3 := breakStep_N a L M t2 (i0 + 2)
  simp only [Prod.mk.injEq] at s1 s2 s3
  rw [s3.2, s2.1, s2.2, s1.1, s1.2, h0]
  rfl
theorem bsO_lt {L M r : Nat} (hM : M ≤ 2 * L) (h1 : 0 < M) : bsO L M r < L := by
  unfold bsO
  have : r &&& (M - 1) ≤ M - 1 := Nat.and_le_right
  split <;> omega
theorem pow_len : ∀ L : Fin 256, 8 ≤ L.1 → (1 <<< bitsLen L.1 ≤ 2 * L.1 ∧ 0 < 1 <<< bitsLen L.1) := by decide +kernel
theorem brk_call (d : Array Int) (n a b : Nat) (hn : d.size = n) (hab : a ≤ b) (hbn : b ≤ n) (hsz : n < 256) :
    SCall Try.prog 20 [uO n d, ii a, ii b] (.tup []) [uO n (breakPatterns d a b), ii a, ii b] := by
  have hl : (b : Int) - (a : Int) = ((b - a : Nat) : Int) := by omega
  have hL : b - a < 256 := by omega
  by_cases h8 : b - a ≥ 8
  · rw [breakPatterns_N d a b h8 hL]
    have hpw := pow_len ⟨b - a, hL⟩ h8
    simp only at hpw
    have hQ : Int.tdiv ((b - a : Nat) : Int) 4 = (((b - a) / 4 : Nat) : Int) := by rw [Int.tdiv_eq_ediv_of_nonneg (by omega)]; omega
    have hi0 : (a : Int) + (((b - a) / 4 : Nat) : Int) * 2 - 1 = ((a + (b - a) / 4 * 2 - 1 : Nat) : Int) := by omega
    have hi1 : (a : Int) + (((b - a) / 4 : Nat) : Int) * 2 + 1 = ((a + (b - a) / 4 * 2 - 1 : Nat) : Int) + 2 := by omega
    have hr1 : a + (b - a) / 4 * 2 - 1 + 2 < n := by omega
    have hr2 : a + (b - a) ≤ n := by omega
    have hQ2 : (b - a) / 4 ≤ 64 := by omega
    have g8 : decide (((b - a : Nat) : Int) ≥ 8) = true := decide_eq_true (by omega)
    generalize a + (b - a) / 4 * 2 - 1 = i0 at *
    generalize (b - a) / 4 = Q at *
    generalize b - a = L at *
    have hnp := npt_call L hL
    generalize 1 <<< bitsLen L = M at *
    refine SCall.of_body' (TT := TT) (fun k => decide (k < 1)) [false, false, false] ttok Try.func20 rfl (Nat.le_of_ble_eq_true rfl) rfl fun fx hfx => WK.top ?_
    simp only [impl, imp, argT, List.append_nil, List.map_nil, List.map_cons, List.nil_append, List.cons_append, List.length_cons, List.length_nil, show Try.f20.ntmps = 65 from rfl, Nat.zero_add, Nat.reduceAdd]
    have FX := And.intro hl (And.intro hQ (And.intro g8 (And.intro hi0 hi1)))
    repeat' (first | refine WK.seq ?_ | refine WK.reg ?_ | refine IL.nil ?_ | refine WK.skip ?_ | refine WK.block ?_ | refine WK.exit_here ?_ | refine WK.e1 ?_ | refine WK.e2 ?_ | refine WK.drawnS (id := 10) mixed [0] [17, 19] [0, 0, 0, 0, 0, 0, 0, 0, 0, 0, 0, 0, 0, 0, 0, 0, 0, 0, 1, 1] [0, 0, 1, 1, 1, 1, 0, 0, 0, 0, 0, 0, 0, 0, 0, 0, 0, 0, 1, 1] (by decide +kernel) ?_ | refine DW.nil ?_ | (with_reducible refine IL.wr ?_ ?_; focus exact cW) | (with_reducible refine DW.wr ?_ ?_; focus exact cW) | refine IL.sgF ttok ?_ | refine DW.reF ttok ?_ | refine DW.rmF ttok ?_ | refine DW.bkF ttok ?_ | refine IL.cSF ttok ent30 [.bor] true ?_ (hS := by exact hnp) | refine IL.cSF ttok ent31 [.own] true ?_ (hS := by exact hxc) | (refine WK.cn (fun h => ?_) (fun h => ?_); all_goals first | (simp only [reduceCtorEq] at h; done) | (simp only [hsA, hsD, hsE, ne_eq] at h; first | done | (exfalso; omega; done) | skip) | skip))
    refine WK.forS 3 (fun k => True) (fun k => ⟨65, [(0, .sl 0 0 0 n), (1, ii a), (6, ii L), (7, .ptr 1 0 0), (8, .v (.int .u64 M)), (9, ii ((i0 : Int) + (k : Nat)))], [some ⟨true, 24, n, true, rwC (bsN a L M i0 L d k).2, 0, false⟩, some ⟨false, 0, 1, false, [.v (.int .u64 ((bsN a L M i0 L d k).1 : Nat))], 0, false⟩]⟩) ⟨trivial, ?_⟩ (fun k hk ho => ?_) (fun ho => ?_)
    · have hz : (i0 : Int) + ((0 : Nat) : Int) = i0 := by omega
      (refine Weak.renP 1 [0, 1] hfx (fun k h => of_decide_eq_true h) (fun k hk => by obtain rfl : k = 0 := (by omega); exact ⟨rfl, _, rfl, rfl⟩) rfl ?_ ?_ rfl <;> (simp only [go_sem, reduceIte, exists_eq_left', exists_eq_left, Blk.mk.injEq, hz, show bsN a L M i0 L d 0 = (L, d) from rfl] <;> (try and_intros) <;> first | rfl | omega))
    · have hxl := bsN_lt a L M i0 L d (by omega) k
      have hsz2 := bsN_size a L M i0 L d k
      rw [bsN]
      generalize bsN a L M i0 L d k = p at *
      obtain ⟨X, d'⟩ := p
      simp only at hxl hsz2 ⊢
      rw [hn] at hsz2
      have hxc := xor_call X hxl
      have hrl := xorNextN_lt X hxl
      have hO := bsO_lt (L := L) (M := M) (r := xorNextN X) hpw.1 hpw.2
      generalize xorNextN X = R at *
      have hO1 : R &&& (M - 1) < 1024 := by have : R &&& (M - 1) ≤ M - 1 := Nat.and_le_right; omega
      have hM1 : (M : Int) - 1 = ((M - 1 : Nat) : Int) := by omega
      have ha : bits .and .u64 (R : Int) ((M - 1 : Nat) : Int) = ((R &&& (M - 1) : Nat) : Int) := (bits_u64 R (M - 1) hrl (by omega)).1
      have hgk : decide ((i0 : Int) + (k : Nat) ≤ (i0 : Int) + 2) = true := decide_eq_true (by omega)
      have hki : (i0 : Int) + (k : Nat) + 1 = (i0 : Int) + ((k + 1 : Nat) : Int) := by omega
      have hkx : (i0 : Int) + (k : Nat) = ((i0 + k : Nat) : Int) := by omega
      have hb1 : i0 + k < n := by omega
      have hao : (a : Int) + (bsO L M R : Int) = ((a + bsO L M R : Nat) : Int) := by omega
      have hb2 : a + bsO L M R < n := by omega
      have e1 : (rwC d')[i0 + k]? = some (uv d'[i0 + k]!) := rwC_at (by omega)
      have e2 : (rwC d')[a + bsO L M R]? = some (uv d'[a + bsO L M R]!) := rwC_at (by omega)
      have hsw := rwC_swp (d := d') (i := i0 + k) (j := a + bsO L M R) (by omega) (by omega)
      have hs2 := swp_size d' (i0 + k) (a + bsO L M R)
      have hll := rwC_len d'
      rw [hsz2] at hll hs2
      have hl2 : ((rwC d').set (i0 + k) (uv d'[a + bsO L M R]!)).length = n := by rw [List.length_set]; exact hll
      have hbs : (if R &&& (M - 1) ≥ L then (R &&& (M - 1)) - L else R &&& (M - 1)) = bsO L M R := rfl
      generalize R &&& (M - 1) = O0 at *
      generalize bsO L M R = O at *
      generalize swp d' (i0 + k) (a + O) = d2 at *
      generalize d'[i0 + k]! = x at *
      generalize d'[a + O]! = y at *
      generalize rwC d' = D at *
      generalize M - 1 = M1 at *
      generalize a + O = q at *
      by_cases hge : O0 ≥ L
      · rw [if_pos hge] at hbs
        have g1 : decide ((O0 : Int) ≥ (L : Int)) = true := decide_eq_true (by omega)
        have g2 : (O0 : Int) - (L : Int) = (O : Int) := by omega
        have FX := And.intro hQ (And.intro hi1 (And.intro hgk (And.intro hM1 (And.intro ha (And.intro g1 (And.intro g2 (And.intro hao (And.intro hkx (And.intro e1 (And.intro e2 (And.intro hsw (And.intro hll hl2))))))))))))
        repeat' (first | refine WK.seq ?_ | refine WK.reg ?_ | refine IL.nil ?_ | refine WK.skip ?_ | refine WK.block ?_ | refine WK.exit_here ?_ | refine WK.e1 ?_ | refine WK.e2 ?_ | refine WK.drawnS (id := 10) mixed [0] [17, 19] [0, 0, 0, 0, 0, 0, 0, 0, 0, 0, 0, 0, 0, 0, 0, 0, 0, 0, 1, 1] [0, 0, 1, 1, 1, 1, 0, 0, 0, 0, 0, 0, 0, 0, 0, 0, 0, 0, 1, 1] (by decide +kernel) ?_ | refine DW.nil ?_ | (with_reducible refine IL.wr ?_ ?_; focus exact cW) | (with_reducible refine DW.wr ?_ ?_; focus exact cW) | refine IL.sgF ttok ?_ | refine DW.reF ttok ?_ | refine DW.rmF ttok ?_ | refine DW.bkF ttok ?_ | refine IL.cSF ttok ent30 [.bor] true ?_ (hS := by exact hnp) | refine IL.cSF ttok ent31 [.own] true ?_ (hS := by exact hxc) | (refine WK.cn (fun h => ?_) (fun h => ?_); all_goals first | (simp only [reduceCtorEq] at h; done) | (simp only [hsA, hsD, hsE, ne_eq] at h; first | done | (exfalso; omega; done) | skip) | skip))
        refine ⟨trivial, ?_⟩
        (refine Weak.renP 1 [0, 1] hfx (fun k h => of_decide_eq_true h) (fun k hk => by obtain rfl : k = 0 := (by omega); exact ⟨rfl, _, rfl, rfl⟩) rfl ?_ ?_ rfl <;> (simp only [go_sem, reduceIte, exists_eq_left', exists_eq_left, Blk.mk.injEq, hki, hsw, hkx] <;> (try and_intros) <;> first | rfl | omega))
      · rw [if_neg hge] at hbs
        have g1 : decide ((O0 : Int) ≥ (L : Int)) = false := decide_eq_false (by omega)
        subst hbs
        have FX := And.intro hQ (And.intro hi1 (And.intro hgk (And.intro hM1 (And.intro ha (And.intro g1 (And.intro hao (And.intro hkx (And.intro e1 (And.intro e2 (And.intro hsw (And.intro hll hl2)))))))))))
        repeat' (first | refine WK.seq ?_ | refine WK.reg ?_ | refine IL.nil ?_ | refine WK.skip ?_ | refine WK.block ?_ | refine WK.exit_here ?_ | refine WK.e1 ?_ | refine WK.e2 ?_ | refine WK.drawnS (id := 10) mixed [0] [17, 19] [0, 0, 0, 0, 0, 0, 0, 0, 0, 0, 0, 0, 0, 0, 0, 0, 0, 0, 1, 1] [0, 0, 1, 1, 1, 1, 0, 0, 0, 0, 0, 0, 0, 0, 0, 0, 0, 0, 1, 1] (by decide +kernel) ?_ | refine DW.nil ?_ | (with_reducible refine IL.wr ?_ ?_; focus exact cW) | (with_reducible refine DW.wr ?_ ?_; focus exact cW) | refine IL.sgF ttok ?_ | refine DW.reF ttok ?_ | refine DW.rmF ttok ?_ | refine DW.bkF ttok ?_ | refine IL.cSF ttok ent30 [.bor] true ?_ (hS := by exact hnp) | refine IL.cSF ttok ent31 [.own] true ?_ (hS := by exact hxc) | (refine WK.cn (fun h => ?_) (fun h => ?_); all_goals first | (simp only [reduceCtorEq] at h; done) | (simp only [hsA, hsD, hsE, ne_eq] at h; first | done | (exfalso; omega; done) | skip) | skip))
        refine ⟨trivial, ?_⟩
        (refine Weak.renP 1 [0, 1] hfx (fun k h => of_decide_eq_true h) (fun k hk => by obtain rfl : k = 0 := (by omega); exact ⟨rfl, _, rfl, rfl⟩) rfl ?_ ?_ rfl <;> (simp only [go_sem, reduceIte, exists_eq_left', exists_eq_left, Blk.mk.injEq, hki, hsw, hkx] <;> (try and_intros) <;> first | rfl | omega))
    · have hg3 : decide ((i0 : Int) + ((3 : Nat) : Int) ≤ (i0 : Int) + 2) = false := decide_eq_false (by omega)
      generalize bsN a L M i0 L d 3 = p at *
      obtain ⟨X, d'⟩ := p
      simp only
      generalize ((3 : Nat) : Int) = three at *
      have FX := And.intro hQ (And.intro hi1 hg3)
      repeat' (first | refine WK.seq ?_ | refine WK.reg ?_ | refine IL.nil ?_ | refine WK.skip ?_ | refine WK.block ?_ | refine WK.exit_here ?_ | refine WK.e1 ?_ | refine WK.e2 ?_ | refine WK.drawnS (id := 10) mixed [0] [17, 19] [0, 0, 0, 0, 0, 0, 0, 0, 0, 0, 0, 0, 0, 0, 0, 0, 0, 0, 1, 1] [0, 0, 1, 1, 1, 1, 0, 0, 0, 0, 0, 0, 0, 0, 0, 0, 0, 0, 1, 1] (by decide +kernel) ?_ | refine DW.nil ?_ | (with_reducible refine IL.wr ?_ ?_; focus exact cW) | (with_reducible refine DW.wr ?_ ?_; focus exact cW) | refine IL.sgF ttok ?_ | refine DW.reF ttok ?_ | refine DW.rmF ttok ?_ | refine DW.bkF ttok ?_ | refine IL.cSF ttok ent30 [.bor] true ?_ (hS := by exact hnp) | refine IL.cSF ttok ent31 [.own] true ?_ (hS := by exact hxc) | (refine WK.cn (fun h => ?_) (fun h => ?_); all_goals first | (simp only [reduceCtorEq] at h; done) | (simp only [hsA, hsD, hsE, ne_eq] at h; first | done | (exfalso; omega; done) | skip) | skip))
      all_goals try ((first | refine WK.ret ⟨.inr rfl, ?_⟩ | refine ⟨.inl rfl, ?_⟩ | refine ⟨.inl trivial, ?_⟩); refine Fin.o ?_ ?_ (h1 := by first | rfl | (simp only [go_sem, show Try.f20.results.toList = [] from rfl, reduceIte] <;> rfl)); rotate_left 1; (focus (first | rfl | skip)); all_goals try with_reducible rfl)
      all_goals skip
  · have : breakPatterns d a b = d := by unfold breakPatterns; simp only; rw [if_neg h8]
    rw [this]
    have g8 : decide (((b - a : Nat) : Int) ≥ 8) = false := decide_eq_false (by omega)
    generalize b - a = L at *
    refine SCall.of_body' (TT := TT) (fun k => decide (k < 1)) [false, false, false] ttok Try.func20 rfl (Nat.le_of_ble_eq_true rfl) rfl fun fx hfx => WK.top ?_
    simp only [impl, imp, argT, List.append_nil, List.map_nil, List.map_cons, List.nil_append, List.cons_append, List.length_cons, List.length_nil, show Try.f20.ntmps = 65 from rfl, Nat.zero_add, Nat.reduceAdd]
    have FX := And.intro hl g8
    repeat' (first | refine WK.seq ?_ | refine WK.reg ?_ | refine IL.nil ?_ | refine WK.skip ?_ | refine WK.block ?_ | refine WK.exit_here ?_ | refine WK.e1 ?_ | refine WK.e2 ?_ | refine WK.drawnS (id := 10) mixed [0] [17, 19] [0, 0, 0, 0, 0, 0, 0, 0, 0, 0, 0, 0, 0, 0, 0, 0, 0, 0, 1, 1] [0, 0, 1, 1, 1, 1, 0, 0, 0, 0, 0, 0, 0, 0, 0, 0, 0, 0, 1, 1] (by decide +kernel) ?_ | refine DW.nil ?_ | (with_reducible refine IL.wr ?_ ?_; focus exact cW) | (with_reducible refine DW.wr ?_ ?_; focus exact cW) | refine IL.sgF ttok ?_ | refine DW.reF ttok ?_ | refine DW.rmF ttok ?_ | refine DW.bkF ttok ?_ | refine IL.cSF ttok ent30 [.bor] true ?_ (hS := by exact hnp) | refine IL.cSF ttok ent31 [.own] true ?_ (hS := by exact hxc) | (refine WK.cn (fun h => ?_) (fun h => ?_); all_goals first | (simp only [reduceCtorEq] at h; done) | (simp only [hsA, hsD, hsE, ne_eq] at h; first | done | (exfalso; omega; done) | skip) | skip))
    all_goals try ((first | refine WK.ret ⟨.inr rfl, ?_⟩ | refine ⟨.inl rfl, ?_⟩ | refine ⟨.inl trivial, ?_⟩); refine Fin.o ?_ ?_ (h1 := by first | rfl | (simp only [go_sem, show Try.f20.results.toList = [] from rfl, reduceIte] <;> rfl)); rotate_left 1; (focus (first | rfl | skip)); all_goals try with_reducible rfl)
    all_goals skip
end Go.Proofs.Ythneocdjknhgdaa.Su
