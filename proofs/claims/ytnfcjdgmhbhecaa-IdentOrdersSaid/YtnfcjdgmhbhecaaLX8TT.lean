/- PRINTED BY wip/tools/mktt.py: what the evaluator knows of the types of the program Ytnfcjdgmhbhecaa. -/
import Derived.Test.YtnfcjdgmhbhecaaProg
import Derived.Test.YtnfcjdgmhbhecaaLA3
namespace Go.Proofs.Ytnfcjdgmhbhecaa
open Go Go.Lift
set_option maxRecDepth 20000

def TT : TTab := fun t => match t with
  | 2 => some ⟨(some .i64), none, 1, 8, false, true, [.v (.int .i64 0)], .oth⟩
  | 3 => some ⟨(some .i64), none, 1, 8, false, true, [.v (.int .i64 0)], .oth⟩
  | 4 => some ⟨none, none, 1, 1, false, true, [.v (.bool false)], .bool⟩
  | 5 => some ⟨(some .u8), none, 1, 1, false, true, [.v (.int .u8 0)], .oth⟩
  | 9 => some ⟨none, none, 1, 16, false, true, [.v (.string ⟨#[]⟩)], .str⟩
  | 12 => some ⟨(some .u64), none, 1, 8, false, true, [.v (.int .u64 0)], .oth⟩
  | 21 => some ⟨(some .i32), none, 1, 4, false, true, [.v (.int .i32 0)], .oth⟩
  | 22 => some ⟨(some .u64), none, 1, 8, false, true, [.v (.int .u64 0)], .oth⟩
  | 23 => some ⟨(some .u16), none, 1, 2, false, true, [.v (.int .u16 0)], .oth⟩
  | 24 => some ⟨(some .u32), none, 1, 4, false, true, [.v (.int .u32 0)], .oth⟩
  | 25 => some ⟨none, (some [.int .u64, .int .u16, .int .u32]), 3, 16, true, true, [.v (.int .u64 0), .v (.int .u16 0), .v (.int .u32 0)], (.struct [(0, 22), (1, 23), (2, 24)])⟩
  | 26 => some ⟨none, (some [.int .u64, .int .u16, .int .u32]), 3, 16, true, true, [.v (.int .u64 0), .v (.int .u16 0), .v (.int .u32 0)], (.struct [(0, 22), (1, 23), (2, 24)])⟩
  | 28 => some ⟨none, (some [.int .u64, .int .u16, .int .u32]), 3, 16, true, true, [.v (.int .u64 0), .v (.int .u16 0), .v (.int .u32 0)], (.struct [(0, 22), (1, 23), (2, 24)])⟩
  | 29 => some ⟨none, (some [.int .u16, .int .u32]), 2, 8, true, true, [.v (.int .u16 0), .v (.int .u32 0)], (.struct [(0, 23), (1, 24)])⟩
  | 30 => some ⟨none, (some [.int .u16, .int .u32]), 2, 8, true, true, [.v (.int .u16 0), .v (.int .u32 0)], (.struct [(0, 23), (1, 24)])⟩
  | 31 => some ⟨none, (some [.int .u16, .int .u32]), 2, 8, true, true, [.v (.int .u16 0), .v (.int .u32 0)], (.struct [(0, 23), (1, 24)])⟩
  | 39 => some ⟨none, none, 1, 24, false, false, [.row 48], (.slice 48)⟩
  | 40 => some ⟨(some .i64), none, 1, 8, false, true, [.v (.int .i64 0)], .oth⟩
  | 45 => some ⟨none, none, 1, 24, false, false, [.row 49], (.slice 49)⟩
  | 47 => some ⟨none, (some [.int .i64, .int .i64, .bool]), 3, 24, true, true, [.v (.int .i64 0), .v (.int .i64 0), .v (.bool false)], (.struct [(0, 3), (1, 3), (2, 4)])⟩
  | 48 => some ⟨none, (some [.int .i64, .int .i64, .bool]), 3, 24, true, true, [.v (.int .i64 0), .v (.int .i64 0), .v (.bool false)], (.struct [(0, 3), (1, 3), (2, 4)])⟩
  | 49 => some ⟨none, (some [.int .i64, .int .i64, .bool]), 3, 24, true, true, [.v (.int .i64 0), .v (.int .i64 0), .v (.bool false)], (.struct [(0, 3), (1, 3), (2, 4)])⟩
  | 51 => some ⟨none, none, 1, 24, false, false, [.row 53], (.slice 53)⟩
  | 52 => some ⟨none, (some [.int .u16, .int .u32, .int .i64]), 3, 16, true, true, [.v (.int .u16 0), .v (.int .u32 0), .v (.int .i64 0)], (.struct [(0, 31), (2, 3)])⟩
  | 53 => some ⟨none, (some [.int .u16, .int .u32, .int .i64]), 3, 16, true, true, [.v (.int .u16 0), .v (.int .u32 0), .v (.int .i64 0)], (.struct [(0, 31), (2, 3)])⟩
  | 55 => some ⟨none, (some [.int .u16, .int .u32, .int .i64]), 3, 16, true, true, [.v (.int .u16 0), .v (.int .u32 0), .v (.int .i64 0)], (.struct [(0, 30), (2, 3)])⟩
  | 56 => some ⟨none, (some [.int .u16, .int .u32, .int .i64]), 3, 16, true, true, [.v (.int .u16 0), .v (.int .u32 0), .v (.int .i64 0)], (.struct [(0, 30), (2, 3)])⟩
  | 57 => some ⟨none, none, 1, 24, false, false, [.row 56], (.slice 56)⟩
  | 64 => some ⟨none, none, 1, 24, false, false, [.row 31], (.slice 31)⟩
  | 70 => some ⟨none, none, 1, 24, false, false, [.row 30], (.slice 30)⟩
  | 89 => some ⟨none, none, 1, 8, false, false, [.v (.pointer none)], .oth⟩
  | 90 => some ⟨none, none, 1, 24, false, false, [.row 5], (.slice 5)⟩
  | 91 => some ⟨none, none, 2, 32, true, false, [.v (.pointer none), .row 5], (.struct [(0, 89), (1, 90)])⟩
  | 92 => some ⟨none, none, 2, 32, true, false, [.v (.pointer none), .row 5], (.struct [(0, 89), (1, 90)])⟩
  | 99 => some ⟨none, none, 1, 24, false, false, [.row 9], (.slice 9)⟩
  | 107 => some ⟨none, none, 1, 24, false, false, [.row 3], (.slice 3)⟩
  | 112 => some ⟨none, none, 1, 8, false, false, [.v (.pointer none)], .oth⟩
  | 125 => some ⟨(some .u64), none, 1, 8, false, true, [.v (.int .u64 0)], .oth⟩
  | 132 => some ⟨(some .i64), none, 1, 8, false, true, [.v (.int .i64 0)], .oth⟩
  | 141 => some ⟨(some .u64), none, 1, 8, false, true, [.v (.int .u64 0)], .oth⟩
  | 145 => some ⟨none, none, 1, 8, false, false, [.v (.pointer none)], .oth⟩
  | 147 => some ⟨none, none, 1, 8, false, false, [.v (.pointer none)], .oth⟩
  | _ => none

@[go_sem] theorem TTe2 : TT 2 = some ⟨(some .i64), none, 1, 8, false, true, [.v (.int .i64 0)], .oth⟩ := rfl
@[go_sem] theorem TTe3 : TT 3 = some ⟨(some .i64), none, 1, 8, false, true, [.v (.int .i64 0)], .oth⟩ := rfl
@[go_sem] theorem TTe4 : TT 4 = some ⟨none, none, 1, 1, false, true, [.v (.bool false)], .bool⟩ := rfl
@[go_sem] theorem TTe5 : TT 5 = some ⟨(some .u8), none, 1, 1, false, true, [.v (.int .u8 0)], .oth⟩ := rfl
@[go_sem] theorem TTe9 : TT 9 = some ⟨none, none, 1, 16, false, true, [.v (.string ⟨#[]⟩)], .str⟩ := rfl
@[go_sem] theorem TTe12 : TT 12 = some ⟨(some .u64), none, 1, 8, false, true, [.v (.int .u64 0)], .oth⟩ := rfl
@[go_sem] theorem TTe21 : TT 21 = some ⟨(some .i32), none, 1, 4, false, true, [.v (.int .i32 0)], .oth⟩ := rfl
@[go_sem] theorem TTe22 : TT 22 = some ⟨(some .u64), none, 1, 8, false, true, [.v (.int .u64 0)], .oth⟩ := rfl
@[go_sem] theorem TTe23 : TT 23 = some ⟨(some .u16), none, 1, 2, false, true, [.v (.int .u16 0)], .oth⟩ := rfl
@[go_sem] theorem TTe24 : TT 24 = some ⟨(some .u32), none, 1, 4, false, true, [.v (.int .u32 0)], .oth⟩ := rfl
@[go_sem] theorem TTe25 : TT 25 = some ⟨none, (some [.int .u64, .int .u16, .int .u32]), 3, 16, true, true, [.v (.int .u64 0), .v (.int .u16 0), .v (.int .u32 0)], (.struct [(0, 22), (1, 23), (2, 24)])⟩ := rfl
@[go_sem] theorem TTe26 : TT 26 = some ⟨none, (some [.int .u64, .int .u16, .int .u32]), 3, 16, true, true, [.v (.int .u64 0), .v (.int .u16 0), .v (.int .u32 0)], (.struct [(0, 22), (1, 23), (2, 24)])⟩ := rfl
@[go_sem] theorem TTe28 : TT 28 = some ⟨none, (some [.int .u64, .int .u16, .int .u32]), 3, 16, true, true, [.v (.int .u64 0), .v (.int .u16 0), .v (.int .u32 0)], (.struct [(0, 22), (1, 23), (2, 24)])⟩ := rfl
@[go_sem] theorem TTe29 : TT 29 = some ⟨none, (some [.int .u16, .int .u32]), 2, 8, true, true, [.v (.int .u16 0), .v (.int .u32 0)], (.struct [(0, 23), (1, 24)])⟩ := rfl
@[go_sem] theorem TTe30 : TT 30 = some ⟨none, (some [.int .u16, .int .u32]), 2, 8, true, true, [.v (.int .u16 0), .v (.int .u32 0)], (.struct [(0, 23), (1, 24)])⟩ := rfl
@[go_sem] theorem TTe31 : TT 31 = some ⟨none, (some [.int .u16, .int .u32]), 2, 8, true, true, [.v (.int .u16 0), .v (.int .u32 0)], (.struct [(0, 23), (1, 24)])⟩ := rfl
@[go_sem] theorem TTe39 : TT 39 = some ⟨none, none, 1, 24, false, false, [.row 48], (.slice 48)⟩ := rfl
@[go_sem] theorem TTe40 : TT 40 = some ⟨(some .i64), none, 1, 8, false, true, [.v (.int .i64 0)], .oth⟩ := rfl
@[go_sem] theorem TTe45 : TT 45 = some ⟨none, none, 1, 24, false, false, [.row 49], (.slice 49)⟩ := rfl
@[go_sem] theorem TTe47 : TT 47 = some ⟨none, (some [.int .i64, .int .i64, .bool]), 3, 24, true, true, [.v (.int .i64 0), .v (.int .i64 0), .v (.bool false)], (.struct [(0, 3), (1, 3), (2, 4)])⟩ := rfl
@[go_sem] theorem TTe48 : TT 48 = some ⟨none, (some [.int .i64, .int .i64, .bool]), 3, 24, true, true, [.v (.int .i64 0), .v (.int .i64 0), .v (.bool false)], (.struct [(0, 3), (1, 3), (2, 4)])⟩ := rfl
@[go_sem] theorem TTe49 : TT 49 = some ⟨none, (some [.int .i64, .int .i64, .bool]), 3, 24, true, true, [.v (.int .i64 0), .v (.int .i64 0), .v (.bool false)], (.struct [(0, 3), (1, 3), (2, 4)])⟩ := rfl
@[go_sem] theorem TTe51 : TT 51 = some ⟨none, none, 1, 24, false, false, [.row 53], (.slice 53)⟩ := rfl
@[go_sem] theorem TTe52 : TT 52 = some ⟨none, (some [.int .u16, .int .u32, .int .i64]), 3, 16, true, true, [.v (.int .u16 0), .v (.int .u32 0), .v (.int .i64 0)], (.struct [(0, 31), (2, 3)])⟩ := rfl
@[go_sem] theorem TTe53 : TT 53 = some ⟨none, (some [.int .u16, .int .u32, .int .i64]), 3, 16, true, true, [.v (.int .u16 0), .v (.int .u32 0), .v (.int .i64 0)], (.struct [(0, 31), (2, 3)])⟩ := rfl
@[go_sem] theorem TTe55 : TT 55 = some ⟨none, (some [.int .u16, .int .u32, .int .i64]), 3, 16, true, true, [.v (.int .u16 0), .v (.int .u32 0), .v (.int .i64 0)], (.struct [(0, 30), (2, 3)])⟩ := rfl
@[go_sem] theorem TTe56 : TT 56 = some ⟨none, (some [.int .u16, .int .u32, .int .i64]), 3, 16, true, true, [.v (.int .u16 0), .v (.int .u32 0), .v (.int .i64 0)], (.struct [(0, 30), (2, 3)])⟩ := rfl
@[go_sem] theorem TTe57 : TT 57 = some ⟨none, none, 1, 24, false, false, [.row 56], (.slice 56)⟩ := rfl
@[go_sem] theorem TTe64 : TT 64 = some ⟨none, none, 1, 24, false, false, [.row 31], (.slice 31)⟩ := rfl
@[go_sem] theorem TTe70 : TT 70 = some ⟨none, none, 1, 24, false, false, [.row 30], (.slice 30)⟩ := rfl
@[go_sem] theorem TTe89 : TT 89 = some ⟨none, none, 1, 8, false, false, [.v (.pointer none)], .oth⟩ := rfl
@[go_sem] theorem TTe90 : TT 90 = some ⟨none, none, 1, 24, false, false, [.row 5], (.slice 5)⟩ := rfl
@[go_sem] theorem TTe91 : TT 91 = some ⟨none, none, 2, 32, true, false, [.v (.pointer none), .row 5], (.struct [(0, 89), (1, 90)])⟩ := rfl
@[go_sem] theorem TTe92 : TT 92 = some ⟨none, none, 2, 32, true, false, [.v (.pointer none), .row 5], (.struct [(0, 89), (1, 90)])⟩ := rfl
@[go_sem] theorem TTe99 : TT 99 = some ⟨none, none, 1, 24, false, false, [.row 9], (.slice 9)⟩ := rfl
@[go_sem] theorem TTe107 : TT 107 = some ⟨none, none, 1, 24, false, false, [.row 3], (.slice 3)⟩ := rfl
@[go_sem] theorem TTe112 : TT 112 = some ⟨none, none, 1, 8, false, false, [.v (.pointer none)], .oth⟩ := rfl
@[go_sem] theorem TTe125 : TT 125 = some ⟨(some .u64), none, 1, 8, false, true, [.v (.int .u64 0)], .oth⟩ := rfl
@[go_sem] theorem TTe132 : TT 132 = some ⟨(some .i64), none, 1, 8, false, true, [.v (.int .i64 0)], .oth⟩ := rfl
@[go_sem] theorem TTe141 : TT 141 = some ⟨(some .u64), none, 1, 8, false, true, [.v (.int .u64 0)], .oth⟩ := rfl
@[go_sem] theorem TTe145 : TT 145 = some ⟨none, none, 1, 8, false, false, [.v (.pointer none)], .oth⟩ := rfl
@[go_sem] theorem TTe147 : TT 147 = some ⟨none, none, 1, 8, false, false, [.v (.pointer none)], .oth⟩ := rfl
theorem TTe : True := trivial
theorem tt2 : TIok Try.prog 2 ⟨(some .i64), none, 1, 8, false, true, [.v (.int .i64 0)], .oth⟩ :=
  TIok.mk' (z := ((.int .i64 0))) (by kernel_rfl) (by simp [zOk, Value.cells, Value.oneCell']) rfl (by decide) Try.underlying2 trivial rfl (fun k h => by cases h; exact Try.underlying2) (fun ks h => by cases h)
theorem tt3 : TIok Try.prog 3 ⟨(some .i64), none, 1, 8, false, true, [.v (.int .i64 0)], .oth⟩ :=
  TIok.mk' (z := ((.int .i64 0))) (by kernel_rfl) (by simp [zOk, Value.cells, Value.oneCell']) rfl (by decide) Try.underlying3 trivial rfl (fun k h => by cases h; exact Try.underlying3) (fun ks h => by cases h)
theorem tt4 : TIok Try.prog 4 ⟨none, none, 1, 1, false, true, [.v (.bool false)], .bool⟩ :=
  TIok.mk' (z := ((.bool false))) (by kernel_rfl) (by simp [zOk, Value.cells, Value.oneCell']) rfl (by decide) Try.underlying4 rfl rfl (fun k h => by cases h) (fun ks h => by cases h)
theorem tt5 : TIok Try.prog 5 ⟨(some .u8), none, 1, 1, false, true, [.v (.int .u8 0)], .oth⟩ :=
  TIok.mk' (z := ((.int .u8 0))) (by kernel_rfl) (by simp [zOk, Value.cells, Value.oneCell']) rfl (by decide) Try.underlying5 trivial rfl (fun k h => by cases h; exact Try.underlying5) (fun ks h => by cases h)
theorem tt9 : TIok Try.prog 9 ⟨none, none, 1, 16, false, true, [.v (.string ⟨#[]⟩)], .str⟩ :=
  TIok.mk' (z := ((.string ⟨#[]⟩))) (by kernel_rfl) (by simp [zOk, Value.cells, Value.oneCell']) rfl (by decide) Try.underlying9 rfl rfl (fun k h => by cases h) (fun ks h => by cases h)
theorem tt12 : TIok Try.prog 12 ⟨(some .u64), none, 1, 8, false, true, [.v (.int .u64 0)], .oth⟩ :=
  TIok.mk' (z := ((.int .u64 0))) (by kernel_rfl) (by simp [zOk, Value.cells, Value.oneCell']) rfl (by decide) Try.underlying12 trivial rfl (fun k h => by cases h; exact Try.underlying12) (fun ks h => by cases h)
theorem tt21 : TIok Try.prog 21 ⟨(some .i32), none, 1, 4, false, true, [.v (.int .i32 0)], .oth⟩ :=
  TIok.mk' (z := ((.int .i32 0))) (by kernel_rfl) (by simp [zOk, Value.cells, Value.oneCell']) rfl (by decide) Try.underlying21 trivial rfl (fun k h => by cases h; exact Try.underlying21) (fun ks h => by cases h)
theorem tt22 : TIok Try.prog 22 ⟨(some .u64), none, 1, 8, false, true, [.v (.int .u64 0)], .oth⟩ :=
  TIok.mk' (z := ((.int .u64 0))) (by kernel_rfl) (by simp [zOk, Value.cells, Value.oneCell']) rfl (by decide) Try.underlying22 trivial rfl (fun k h => by cases h; exact Try.underlying22) (fun ks h => by cases h)
theorem tt23 : TIok Try.prog 23 ⟨(some .u16), none, 1, 2, false, true, [.v (.int .u16 0)], .oth⟩ :=
  TIok.mk' (z := ((.int .u16 0))) (by kernel_rfl) (by simp [zOk, Value.cells, Value.oneCell']) rfl (by decide) Try.underlying23 trivial rfl (fun k h => by cases h; exact Try.underlying23) (fun ks h => by cases h)
theorem tt24 : TIok Try.prog 24 ⟨(some .u32), none, 1, 4, false, true, [.v (.int .u32 0)], .oth⟩ :=
  TIok.mk' (z := ((.int .u32 0))) (by kernel_rfl) (by simp [zOk, Value.cells, Value.oneCell']) rfl (by decide) Try.underlying24 trivial rfl (fun k h => by cases h; exact Try.underlying24) (fun ks h => by cases h)
theorem tt25_eq : EqTy Try.prog 2 25 [.int .u64, .int .u16, .int .u32] :=
  eqTy_struct Try.underlying25 (by kernel_rfl) (.one rfl rfl Try.underlying22 rfl (scEq_int 0 Try.underlying22) (.one rfl rfl Try.underlying23 rfl (scEq_int 0 Try.underlying23) (.one rfl rfl Try.underlying24 rfl (scEq_int 0 Try.underlying24) .nil)))
theorem tt25 : TIok Try.prog 25 ⟨none, (some [.int .u64, .int .u16, .int .u32]), 3, 16, true, true, [.v (.int .u64 0), .v (.int .u16 0), .v (.int .u32 0)], (.struct [(0, 22), (1, 23), (2, 24)])⟩ :=
  TIok.mk' (z := (.agg #[(.int .u64 0), (.int .u16 0), (.int .u32 0)])) (by kernel_rfl) (by simp [zOk, Value.cells, Value.oneCell']) rfl (by decide) Try.underlying25 ⟨_, rfl, rfl⟩ rfl (fun k h => by cases h) (eqk_flat (by kernel_rfl) (by decide) tt25_eq)
theorem tt26_eq : EqTy Try.prog 2 26 [.int .u64, .int .u16, .int .u32] :=
  eqTy_struct Try.underlying26 (by kernel_rfl) (.one rfl rfl Try.underlying22 rfl (scEq_int 0 Try.underlying22) (.one rfl rfl Try.underlying23 rfl (scEq_int 0 Try.underlying23) (.one rfl rfl Try.underlying24 rfl (scEq_int 0 Try.underlying24) .nil)))
theorem tt26 : TIok Try.prog 26 ⟨none, (some [.int .u64, .int .u16, .int .u32]), 3, 16, true, true, [.v (.int .u64 0), .v (.int .u16 0), .v (.int .u32 0)], (.struct [(0, 22), (1, 23), (2, 24)])⟩ :=
  TIok.mk' (z := (.agg #[(.int .u64 0), (.int .u16 0), (.int .u32 0)])) (by kernel_rfl) (by simp [zOk, Value.cells, Value.oneCell']) rfl (by decide) Try.underlying26 ⟨_, rfl, rfl⟩ rfl (fun k h => by cases h) (eqk_flat (by kernel_rfl) (by decide) tt26_eq)
theorem tt28_eq : EqTy Try.prog 2 28 [.int .u64, .int .u16, .int .u32] :=
  eqTy_struct Try.underlying28 (by kernel_rfl) (.one rfl rfl Try.underlying22 rfl (scEq_int 0 Try.underlying22) (.one rfl rfl Try.underlying23 rfl (scEq_int 0 Try.underlying23) (.one rfl rfl Try.underlying24 rfl (scEq_int 0 Try.underlying24) .nil)))
theorem tt28 : TIok Try.prog 28 ⟨none, (some [.int .u64, .int .u16, .int .u32]), 3, 16, true, true, [.v (.int .u64 0), .v (.int .u16 0), .v (.int .u32 0)], (.struct [(0, 22), (1, 23), (2, 24)])⟩ :=
  TIok.mk' (z := (.agg #[(.int .u64 0), (.int .u16 0), (.int .u32 0)])) (by kernel_rfl) (by simp [zOk, Value.cells, Value.oneCell']) rfl (by decide) Try.underlying28 ⟨_, rfl, rfl⟩ rfl (fun k h => by cases h) (eqk_flat (by kernel_rfl) (by decide) tt28_eq)
theorem tt29_eq : EqTy Try.prog 2 29 [.int .u16, .int .u32] :=
  eqTy_struct Try.underlying29 (by kernel_rfl) (.one rfl rfl Try.underlying23 rfl (scEq_int 0 Try.underlying23) (.one rfl rfl Try.underlying24 rfl (scEq_int 0 Try.underlying24) .nil))
theorem tt29 : TIok Try.prog 29 ⟨none, (some [.int .u16, .int .u32]), 2, 8, true, true, [.v (.int .u16 0), .v (.int .u32 0)], (.struct [(0, 23), (1, 24)])⟩ :=
  TIok.mk' (z := (.agg #[(.int .u16 0), (.int .u32 0)])) (by kernel_rfl) (by simp [zOk, Value.cells, Value.oneCell']) rfl (by decide) Try.underlying29 ⟨_, rfl, rfl⟩ rfl (fun k h => by cases h) (eqk_flat (by kernel_rfl) (by decide) tt29_eq)
theorem tt30_eq : EqTy Try.prog 2 30 [.int .u16, .int .u32] :=
  eqTy_struct Try.underlying30 (by kernel_rfl) (.one rfl rfl Try.underlying23 rfl (scEq_int 0 Try.underlying23) (.one rfl rfl Try.underlying24 rfl (scEq_int 0 Try.underlying24) .nil))
theorem tt30 : TIok Try.prog 30 ⟨none, (some [.int .u16, .int .u32]), 2, 8, true, true, [.v (.int .u16 0), .v (.int .u32 0)], (.struct [(0, 23), (1, 24)])⟩ :=
  TIok.mk' (z := (.agg #[(.int .u16 0), (.int .u32 0)])) (by kernel_rfl) (by simp [zOk, Value.cells, Value.oneCell']) rfl (by decide) Try.underlying30 ⟨_, rfl, rfl⟩ rfl (fun k h => by cases h) (eqk_flat (by kernel_rfl) (by decide) tt30_eq)
theorem tt31_eq : EqTy Try.prog 2 31 [.int .u16, .int .u32] :=
  eqTy_struct Try.underlying31 (by kernel_rfl) (.one rfl rfl Try.underlying23 rfl (scEq_int 0 Try.underlying23) (.one rfl rfl Try.underlying24 rfl (scEq_int 0 Try.underlying24) .nil))
theorem tt31 : TIok Try.prog 31 ⟨none, (some [.int .u16, .int .u32]), 2, 8, true, true, [.v (.int .u16 0), .v (.int .u32 0)], (.struct [(0, 23), (1, 24)])⟩ :=
  TIok.mk' (z := (.agg #[(.int .u16 0), (.int .u32 0)])) (by kernel_rfl) (by simp [zOk, Value.cells, Value.oneCell']) rfl (by decide) Try.underlying31 ⟨_, rfl, rfl⟩ rfl (fun k h => by cases h) (eqk_flat (by kernel_rfl) (by decide) tt31_eq)
theorem tt39 : TIok Try.prog 39 ⟨none, none, 1, 24, false, false, [.row 48], (.slice 48)⟩ :=
  TIok.mk' (z := ((.slice none 0 0))) (by kernel_rfl) (by simp [zOk, Value.cells, Value.oneCell']) rfl (by decide) Try.underlying39 rfl rfl (fun k h => by cases h) (fun ks h => by cases h)
theorem tt40 : TIok Try.prog 40 ⟨(some .i64), none, 1, 8, false, true, [.v (.int .i64 0)], .oth⟩ :=
  TIok.mk' (z := ((.int .i64 0))) (by kernel_rfl) (by simp [zOk, Value.cells, Value.oneCell']) rfl (by decide) Try.underlying40 trivial rfl (fun k h => by cases h; exact Try.underlying40) (fun ks h => by cases h)
theorem tt45 : TIok Try.prog 45 ⟨none, none, 1, 24, false, false, [.row 49], (.slice 49)⟩ :=
  TIok.mk' (z := ((.slice none 0 0))) (by kernel_rfl) (by simp [zOk, Value.cells, Value.oneCell']) rfl (by decide) Try.underlying45 rfl rfl (fun k h => by cases h) (fun ks h => by cases h)
theorem tt47_eq : EqTy Try.prog 2 47 [.int .i64, .int .i64, .bool] :=
  eqTy_struct Try.underlying47 (by kernel_rfl) (.one rfl rfl Try.underlying3 rfl (scEq_int 0 Try.underlying3) (.one rfl rfl Try.underlying3 rfl (scEq_int 0 Try.underlying3) (.one rfl rfl Try.underlying4 rfl (scEq_bool 0 Try.underlying4) .nil)))
theorem tt47 : TIok Try.prog 47 ⟨none, (some [.int .i64, .int .i64, .bool]), 3, 24, true, true, [.v (.int .i64 0), .v (.int .i64 0), .v (.bool false)], (.struct [(0, 3), (1, 3), (2, 4)])⟩ :=
  TIok.mk' (z := (.agg #[(.int .i64 0), (.int .i64 0), (.bool false)])) (by kernel_rfl) (by simp [zOk, Value.cells, Value.oneCell']) rfl (by decide) Try.underlying47 ⟨_, rfl, rfl⟩ rfl (fun k h => by cases h) (eqk_flat (by kernel_rfl) (by decide) tt47_eq)
theorem tt48_eq : EqTy Try.prog 2 48 [.int .i64, .int .i64, .bool] :=
  eqTy_struct Try.underlying48 (by kernel_rfl) (.one rfl rfl Try.underlying3 rfl (scEq_int 0 Try.underlying3) (.one rfl rfl Try.underlying3 rfl (scEq_int 0 Try.underlying3) (.one rfl rfl Try.underlying4 rfl (scEq_bool 0 Try.underlying4) .nil)))
theorem tt48 : TIok Try.prog 48 ⟨none, (some [.int .i64, .int .i64, .bool]), 3, 24, true, true, [.v (.int .i64 0), .v (.int .i64 0), .v (.bool false)], (.struct [(0, 3), (1, 3), (2, 4)])⟩ :=
  TIok.mk' (z := (.agg #[(.int .i64 0), (.int .i64 0), (.bool false)])) (by kernel_rfl) (by simp [zOk, Value.cells, Value.oneCell']) rfl (by decide) Try.underlying48 ⟨_, rfl, rfl⟩ rfl (fun k h => by cases h) (eqk_flat (by kernel_rfl) (by decide) tt48_eq)
theorem tt49_eq : EqTy Try.prog 2 49 [.int .i64, .int .i64, .bool] :=
  eqTy_struct Try.underlying49 (by kernel_rfl) (.one rfl rfl Try.underlying3 rfl (scEq_int 0 Try.underlying3) (.one rfl rfl Try.underlying3 rfl (scEq_int 0 Try.underlying3) (.one rfl rfl Try.underlying4 rfl (scEq_bool 0 Try.underlying4) .nil)))
theorem tt49 : TIok Try.prog 49 ⟨none, (some [.int .i64, .int .i64, .bool]), 3, 24, true, true, [.v (.int .i64 0), .v (.int .i64 0), .v (.bool false)], (.struct [(0, 3), (1, 3), (2, 4)])⟩ :=
  TIok.mk' (z := (.agg #[(.int .i64 0), (.int .i64 0), (.bool false)])) (by kernel_rfl) (by simp [zOk, Value.cells, Value.oneCell']) rfl (by decide) Try.underlying49 ⟨_, rfl, rfl⟩ rfl (fun k h => by cases h) (eqk_flat (by kernel_rfl) (by decide) tt49_eq)
theorem tt51 : TIok Try.prog 51 ⟨none, none, 1, 24, false, false, [.row 53], (.slice 53)⟩ :=
  TIok.mk' (z := ((.slice none 0 0))) (by kernel_rfl) (by simp [zOk, Value.cells, Value.oneCell']) rfl (by decide) Try.underlying51 rfl rfl (fun k h => by cases h) (fun ks h => by cases h)
theorem tt52_eq : EqTy Try.prog 3 52 [.int .u16, .int .u32, .int .i64] :=
  eqTy_struct Try.underlying52 (by kernel_rfl) (.sub (ks1 := [.int .u16, .int .u32]) (ks := [.int .i64]) rfl rfl Try.underlying31 (by kernel_rfl) (tt31_eq.up (by decide)) (.one rfl rfl Try.underlying3 rfl (scEq_int 1 Try.underlying3) .nil))
theorem tt52 : TIok Try.prog 52 ⟨none, (some [.int .u16, .int .u32, .int .i64]), 3, 16, true, true, [.v (.int .u16 0), .v (.int .u32 0), .v (.int .i64 0)], (.struct [(0, 31), (2, 3)])⟩ :=
  TIok.mk' (z := (.agg #[(.int .u16 0), (.int .u32 0), (.int .i64 0)])) (by kernel_rfl) (by simp [zOk, Value.cells, Value.oneCell']) rfl (by decide) Try.underlying52 ⟨_, rfl, rfl⟩ rfl (fun k h => by cases h) (eqk_flat (by kernel_rfl) (by decide) tt52_eq)
theorem tt53_eq : EqTy Try.prog 3 53 [.int .u16, .int .u32, .int .i64] :=
  eqTy_struct Try.underlying53 (by kernel_rfl) (.sub (ks1 := [.int .u16, .int .u32]) (ks := [.int .i64]) rfl rfl Try.underlying31 (by kernel_rfl) (tt31_eq.up (by decide)) (.one rfl rfl Try.underlying3 rfl (scEq_int 1 Try.underlying3) .nil))
theorem tt53 : TIok Try.prog 53 ⟨none, (some [.int .u16, .int .u32, .int .i64]), 3, 16, true, true, [.v (.int .u16 0), .v (.int .u32 0), .v (.int .i64 0)], (.struct [(0, 31), (2, 3)])⟩ :=
  TIok.mk' (z := (.agg #[(.int .u16 0), (.int .u32 0), (.int .i64 0)])) (by kernel_rfl) (by simp [zOk, Value.cells, Value.oneCell']) rfl (by decide) Try.underlying53 ⟨_, rfl, rfl⟩ rfl (fun k h => by cases h) (eqk_flat (by kernel_rfl) (by decide) tt53_eq)
theorem tt55_eq : EqTy Try.prog 3 55 [.int .u16, .int .u32, .int .i64] :=
  eqTy_struct Try.underlying55 (by kernel_rfl) (.sub (ks1 := [.int .u16, .int .u32]) (ks := [.int .i64]) rfl rfl Try.underlying30 (by kernel_rfl) (tt30_eq.up (by decide)) (.one rfl rfl Try.underlying3 rfl (scEq_int 1 Try.underlying3) .nil))
theorem tt55 : TIok Try.prog 55 ⟨none, (some [.int .u16, .int .u32, .int .i64]), 3, 16, true, true, [.v (.int .u16 0), .v (.int .u32 0), .v (.int .i64 0)], (.struct [(0, 30), (2, 3)])⟩ :=
  TIok.mk' (z := (.agg #[(.int .u16 0), (.int .u32 0), (.int .i64 0)])) (by kernel_rfl) (by simp [zOk, Value.cells, Value.oneCell']) rfl (by decide) Try.underlying55 ⟨_, rfl, rfl⟩ rfl (fun k h => by cases h) (eqk_flat (by kernel_rfl) (by decide) tt55_eq)
theorem tt56_eq : EqTy Try.prog 3 56 [.int .u16, .int .u32, .int .i64] :=
  eqTy_struct Try.underlying56 (by kernel_rfl) (.sub (ks1 := [.int .u16, .int .u32]) (ks := [.int .i64]) rfl rfl Try.underlying30 (by kernel_rfl) (tt30_eq.up (by decide)) (.one rfl rfl Try.underlying3 rfl (scEq_int 1 Try.underlying3) .nil))
theorem tt56 : TIok Try.prog 56 ⟨none, (some [.int .u16, .int .u32, .int .i64]), 3, 16, true, true, [.v (.int .u16 0), .v (.int .u32 0), .v (.int .i64 0)], (.struct [(0, 30), (2, 3)])⟩ :=
  TIok.mk' (z := (.agg #[(.int .u16 0), (.int .u32 0), (.int .i64 0)])) (by kernel_rfl) (by simp [zOk, Value.cells, Value.oneCell']) rfl (by decide) Try.underlying56 ⟨_, rfl, rfl⟩ rfl (fun k h => by cases h) (eqk_flat (by kernel_rfl) (by decide) tt56_eq)
theorem tt57 : TIok Try.prog 57 ⟨none, none, 1, 24, false, false, [.row 56], (.slice 56)⟩ :=
  TIok.mk' (z := ((.slice none 0 0))) (by kernel_rfl) (by simp [zOk, Value.cells, Value.oneCell']) rfl (by decide) Try.underlying57 rfl rfl (fun k h => by cases h) (fun ks h => by cases h)
theorem tt64 : TIok Try.prog 64 ⟨none, none, 1, 24, false, false, [.row 31], (.slice 31)⟩ :=
  TIok.mk' (z := ((.slice none 0 0))) (by kernel_rfl) (by simp [zOk, Value.cells, Value.oneCell']) rfl (by decide) Try.underlying64 rfl rfl (fun k h => by cases h) (fun ks h => by cases h)
theorem tt70 : TIok Try.prog 70 ⟨none, none, 1, 24, false, false, [.row 30], (.slice 30)⟩ :=
  TIok.mk' (z := ((.slice none 0 0))) (by kernel_rfl) (by simp [zOk, Value.cells, Value.oneCell']) rfl (by decide) Try.underlying70 rfl rfl (fun k h => by cases h) (fun ks h => by cases h)
theorem tt89 : TIok Try.prog 89 ⟨none, none, 1, 8, false, false, [.v (.pointer none)], .oth⟩ :=
  TIok.mk' (z := ((.pointer none))) (by kernel_rfl) (by simp [zOk, Value.cells, Value.oneCell']) rfl (by decide) Try.underlying89 trivial rfl (fun k h => by cases h) (fun ks h => by cases h)
theorem tt90 : TIok Try.prog 90 ⟨none, none, 1, 24, false, false, [.row 5], (.slice 5)⟩ :=
  TIok.mk' (z := ((.slice none 0 0))) (by kernel_rfl) (by simp [zOk, Value.cells, Value.oneCell']) rfl (by decide) Try.underlying90 rfl rfl (fun k h => by cases h) (fun ks h => by cases h)
theorem tt91 : TIok Try.prog 91 ⟨none, none, 2, 32, true, false, [.v (.pointer none), .row 5], (.struct [(0, 89), (1, 90)])⟩ :=
  TIok.mk' (z := (.agg #[(.pointer none), (.slice none 0 0)])) (by kernel_rfl) (by simp [zOk, Value.cells, Value.oneCell']) rfl (by decide) Try.underlying91 ⟨_, rfl, rfl⟩ rfl (fun k h => by cases h) (fun ks h => by cases h)
theorem tt92 : TIok Try.prog 92 ⟨none, none, 2, 32, true, false, [.v (.pointer none), .row 5], (.struct [(0, 89), (1, 90)])⟩ :=
  TIok.mk' (z := (.agg #[(.pointer none), (.slice none 0 0)])) (by kernel_rfl) (by simp [zOk, Value.cells, Value.oneCell']) rfl (by decide) Try.underlying92 ⟨_, rfl, rfl⟩ rfl (fun k h => by cases h) (fun ks h => by cases h)
theorem tt99 : TIok Try.prog 99 ⟨none, none, 1, 24, false, false, [.row 9], (.slice 9)⟩ :=
  TIok.mk' (z := ((.slice none 0 0))) (by kernel_rfl) (by simp [zOk, Value.cells, Value.oneCell']) rfl (by decide) Try.underlying99 rfl rfl (fun k h => by cases h) (fun ks h => by cases h)
theorem tt107 : TIok Try.prog 107 ⟨none, none, 1, 24, false, false, [.row 3], (.slice 3)⟩ :=
  TIok.mk' (z := ((.slice none 0 0))) (by kernel_rfl) (by simp [zOk, Value.cells, Value.oneCell']) rfl (by decide) Try.underlying107 rfl rfl (fun k h => by cases h) (fun ks h => by cases h)
theorem tt112 : TIok Try.prog 112 ⟨none, none, 1, 8, false, false, [.v (.pointer none)], .oth⟩ :=
  TIok.mk' (z := ((.pointer none))) (by kernel_rfl) (by simp [zOk, Value.cells, Value.oneCell']) rfl (by decide) Try.underlying112 trivial rfl (fun k h => by cases h) (fun ks h => by cases h)
theorem tt125 : TIok Try.prog 125 ⟨(some .u64), none, 1, 8, false, true, [.v (.int .u64 0)], .oth⟩ :=
  TIok.mk' (z := ((.int .u64 0))) (by kernel_rfl) (by simp [zOk, Value.cells, Value.oneCell']) rfl (by decide) Try.underlying125 trivial rfl (fun k h => by cases h; exact Try.underlying125) (fun ks h => by cases h)
theorem tt132 : TIok Try.prog 132 ⟨(some .i64), none, 1, 8, false, true, [.v (.int .i64 0)], .oth⟩ :=
  TIok.mk' (z := ((.int .i64 0))) (by kernel_rfl) (by simp [zOk, Value.cells, Value.oneCell']) rfl (by decide) Try.underlying132 trivial rfl (fun k h => by cases h; exact Try.underlying132) (fun ks h => by cases h)
theorem tt141 : TIok Try.prog 141 ⟨(some .u64), none, 1, 8, false, true, [.v (.int .u64 0)], .oth⟩ :=
  TIok.mk' (z := ((.int .u64 0))) (by kernel_rfl) (by simp [zOk, Value.cells, Value.oneCell']) rfl (by decide) Try.underlying141 trivial rfl (fun k h => by cases h; exact Try.underlying141) (fun ks h => by cases h)
theorem tt145 : TIok Try.prog 145 ⟨none, none, 1, 8, false, false, [.v (.pointer none)], .oth⟩ :=
  TIok.mk' (z := ((.pointer none))) (by kernel_rfl) (by simp [zOk, Value.cells, Value.oneCell']) rfl (by decide) Try.underlying145 trivial rfl (fun k h => by cases h) (fun ks h => by cases h)
theorem tt147 : TIok Try.prog 147 ⟨none, none, 1, 8, false, false, [.v (.pointer none)], .oth⟩ :=
  TIok.mk' (z := ((.pointer none))) (by kernel_rfl) (by simp [zOk, Value.cells, Value.oneCell']) rfl (by decide) Try.underlying147 trivial rfl (fun k h => by cases h) (fun ks h => by cases h)
theorem ttok : TTok Try.prog TT := by
  intro t i h
  unfold TT at h
  split at h <;> first | (cases h; done) | (cases h; first | exact tt2 | exact tt3 | exact tt4 | exact tt5 | exact tt9 | exact tt12 | exact tt21 | exact tt22 | exact tt23 | exact tt24 | exact tt25 | exact tt26 | exact tt28 | exact tt29 | exact tt30 | exact tt31 | exact tt39 | exact tt40 | exact tt45 | exact tt47 | exact tt48 | exact tt49 | exact tt51 | exact tt52 | exact tt53 | exact tt55 | exact tt56 | exact tt57 | exact tt64 | exact tt70 | exact tt89 | exact tt90 | exact tt91 | exact tt92 | exact tt99 | exact tt107 | exact tt112 | exact tt125 | exact tt132 | exact tt141 | exact tt145 | exact tt147)
theorem mixed : Try.prog.follows .mixedOrders = true := by kernel_rfl
theorem ent3 : Ent Try.prog 3 := ⟨_, Try.func3, by kernel_rfl, rfl⟩
theorem ent4 : Ent Try.prog 4 := ⟨_, Try.func4, by kernel_rfl, rfl⟩
theorem ent5 : Ent Try.prog 5 := ⟨_, Try.func5, by kernel_rfl, rfl⟩
theorem ent6 : Ent Try.prog 6 := ⟨_, Try.func6, by kernel_rfl, rfl⟩
theorem ent7 : Ent Try.prog 7 := ⟨_, Try.func7, by kernel_rfl, rfl⟩
theorem ent8 : Ent Try.prog 8 := ⟨_, Try.func8, by kernel_rfl, rfl⟩
theorem ent9 : Ent Try.prog 9 := ⟨_, Try.func9, by kernel_rfl, rfl⟩
theorem ent10 : Ent Try.prog 10 := ⟨_, Try.func10, by kernel_rfl, rfl⟩
theorem ent11 : Ent Try.prog 11 := ⟨_, Try.func11, by kernel_rfl, rfl⟩
theorem ent12 : Ent Try.prog 12 := ⟨_, Try.func12, by kernel_rfl, rfl⟩
theorem ent13 : Ent Try.prog 13 := ⟨_, Try.func13, by kernel_rfl, rfl⟩
theorem ent14 : Ent Try.prog 14 := ⟨_, Try.func14, by kernel_rfl, rfl⟩
theorem ent15 : Ent Try.prog 15 := ⟨_, Try.func15, by kernel_rfl, rfl⟩
theorem ent16 : Ent Try.prog 16 := ⟨_, Try.func16, by kernel_rfl, rfl⟩
theorem ent17 : Ent Try.prog 17 := ⟨_, Try.func17, by kernel_rfl, rfl⟩
theorem ent18 : Ent Try.prog 18 := ⟨_, Try.func18, by kernel_rfl, rfl⟩
theorem ent19 : Ent Try.prog 19 := ⟨_, Try.func19, by kernel_rfl, rfl⟩
theorem ent20 : Ent Try.prog 20 := ⟨_, Try.func20, by kernel_rfl, rfl⟩
theorem ent21 : Ent Try.prog 21 := ⟨_, Try.func21, by kernel_rfl, rfl⟩
theorem ent22 : Ent Try.prog 22 := ⟨_, Try.func22, by kernel_rfl, rfl⟩
theorem ent23 : Ent Try.prog 23 := ⟨_, Try.func23, by kernel_rfl, rfl⟩
theorem ent24 : Ent Try.prog 24 := ⟨_, Try.func24, by kernel_rfl, rfl⟩
theorem ent25 : Ent Try.prog 25 := ⟨_, Try.func25, by kernel_rfl, rfl⟩
theorem ent26 : Ent Try.prog 26 := ⟨_, Try.func26, by kernel_rfl, rfl⟩
theorem ent27 : Ent Try.prog 27 := ⟨_, Try.func27, by kernel_rfl, rfl⟩
theorem ent28 : Ent Try.prog 28 := ⟨_, Try.func28, by kernel_rfl, rfl⟩
theorem ent29 : Ent Try.prog 29 := ⟨_, Try.func29, by kernel_rfl, rfl⟩
theorem ent30 : Ent Try.prog 30 := ⟨_, Try.func30, by kernel_rfl, rfl⟩
theorem ent31 : Ent Try.prog 31 := ⟨_, Try.func31, by kernel_rfl, rfl⟩
theorem ent32 : Ent Try.prog 32 := ⟨_, Try.func32, by kernel_rfl, rfl⟩
theorem ent33 : Ent Try.prog 33 := ⟨_, Try.func33, by kernel_rfl, rfl⟩
theorem ent34 : Ent Try.prog 34 := ⟨_, Try.func34, by kernel_rfl, rfl⟩
theorem ent35 : Ent Try.prog 35 := ⟨_, Try.func35, by kernel_rfl, rfl⟩
theorem ent36 : Ent Try.prog 36 := ⟨_, Try.func36, by kernel_rfl, rfl⟩
theorem ent37 : Ent Try.prog 37 := ⟨_, Try.func37, by kernel_rfl, rfl⟩
theorem ent38 : Ent Try.prog 38 := ⟨_, Try.func38, by kernel_rfl, rfl⟩
theorem ent39 : Ent Try.prog 39 := ⟨_, Try.func39, by kernel_rfl, rfl⟩
theorem ent40 : Ent Try.prog 40 := ⟨_, Try.func40, by kernel_rfl, rfl⟩
theorem ent41 : Ent Try.prog 41 := ⟨_, Try.func41, by kernel_rfl, rfl⟩
theorem ent42 : Ent Try.prog 42 := ⟨_, Try.func42, by kernel_rfl, rfl⟩
theorem ent43 : Ent Try.prog 43 := ⟨_, Try.func43, by kernel_rfl, rfl⟩
theorem ent44 : Ent Try.prog 44 := ⟨_, Try.func44, by kernel_rfl, rfl⟩
theorem ent45 : Ent Try.prog 45 := ⟨_, Try.func45, by kernel_rfl, rfl⟩
theorem ent46 : Ent Try.prog 46 := ⟨_, Try.func46, by kernel_rfl, rfl⟩
theorem ent47 : Ent Try.prog 47 := ⟨_, Try.func47, by kernel_rfl, rfl⟩
theorem ent48 : Ent Try.prog 48 := ⟨_, Try.func48, by kernel_rfl, rfl⟩
theorem ent49 : Ent Try.prog 49 := ⟨_, Try.func49, by kernel_rfl, rfl⟩
theorem ent50 : Ent Try.prog 50 := ⟨_, Try.func50, by kernel_rfl, rfl⟩
theorem ent51 : Ent Try.prog 51 := ⟨_, Try.func51, by kernel_rfl, rfl⟩
theorem ent52 : Ent Try.prog 52 := ⟨_, Try.func52, by kernel_rfl, rfl⟩
theorem ent53 : Ent Try.prog 53 := ⟨_, Try.func53, by kernel_rfl, rfl⟩
theorem ent54 : Ent Try.prog 54 := ⟨_, Try.func54, by kernel_rfl, rfl⟩
theorem ent55 : Ent Try.prog 55 := ⟨_, Try.func55, by kernel_rfl, rfl⟩
theorem ent56 : Ent Try.prog 56 := ⟨_, Try.func56, by kernel_rfl, rfl⟩
theorem ent57 : Ent Try.prog 57 := ⟨_, Try.func57, by kernel_rfl, rfl⟩
theorem ent58 : Ent Try.prog 58 := ⟨_, Try.func58, by kernel_rfl, rfl⟩
theorem ent59 : Ent Try.prog 59 := ⟨_, Try.func59, by kernel_rfl, rfl⟩
theorem ent60 : Ent Try.prog 60 := ⟨_, Try.func60, by kernel_rfl, rfl⟩
theorem ent61 : Ent Try.prog 61 := ⟨_, Try.func61, by kernel_rfl, rfl⟩
theorem ent62 : Ent Try.prog 62 := ⟨_, Try.func62, by kernel_rfl, rfl⟩
theorem ent63 : Ent Try.prog 63 := ⟨_, Try.func63, by kernel_rfl, rfl⟩
theorem ent64 : Ent Try.prog 64 := ⟨_, Try.func64, by kernel_rfl, rfl⟩
theorem ent65 : Ent Try.prog 65 := ⟨_, Try.func65, by kernel_rfl, rfl⟩
theorem ent66 : Ent Try.prog 66 := ⟨_, Try.func66, by kernel_rfl, rfl⟩
theorem ent67 : Ent Try.prog 67 := ⟨_, Try.func67, by kernel_rfl, rfl⟩
theorem ent68 : Ent Try.prog 68 := ⟨_, Try.func68, by kernel_rfl, rfl⟩
theorem ent69 : Ent Try.prog 69 := ⟨_, Try.func69, by kernel_rfl, rfl⟩
theorem ent71 : Ent Try.prog 71 := ⟨_, Try.func71, by kernel_rfl, rfl⟩
theorem ent72 : Ent Try.prog 72 := ⟨_, Try.func72, by kernel_rfl, rfl⟩
theorem ent73 : Ent Try.prog 73 := ⟨_, Try.func73, by kernel_rfl, rfl⟩
theorem ent74 : Ent Try.prog 74 := ⟨_, Try.func74, by kernel_rfl, rfl⟩
theorem ent76 : Ent Try.prog 76 := ⟨_, Try.func76, by kernel_rfl, rfl⟩
theorem ent77 : Ent Try.prog 77 := ⟨_, Try.func77, by kernel_rfl, rfl⟩
theorem ent78 : Ent Try.prog 78 := ⟨_, Try.func78, by kernel_rfl, rfl⟩
theorem ent79 : Ent Try.prog 79 := ⟨_, Try.func79, by kernel_rfl, rfl⟩
theorem ent80 : Ent Try.prog 80 := ⟨_, Try.func80, by kernel_rfl, rfl⟩
theorem ent82 : Ent Try.prog 82 := ⟨_, Try.func82, by kernel_rfl, rfl⟩
theorem ent83 : Ent Try.prog 83 := ⟨_, Try.func83, by kernel_rfl, rfl⟩
theorem ent84 : Ent Try.prog 84 := ⟨_, Try.func84, by kernel_rfl, rfl⟩
theorem ent85 : Ent Try.prog 85 := ⟨_, Try.func85, by kernel_rfl, rfl⟩
theorem ent86 : Ent Try.prog 86 := ⟨_, Try.func86, by kernel_rfl, rfl⟩
theorem ent87 : Ent Try.prog 87 := ⟨_, Try.func87, by kernel_rfl, rfl⟩
theorem ent88 : Ent Try.prog 88 := ⟨_, Try.func88, by kernel_rfl, rfl⟩
theorem ent89 : Ent Try.prog 89 := ⟨_, Try.func89, by kernel_rfl, rfl⟩
theorem ent90 : Ent Try.prog 90 := ⟨_, Try.func90, by kernel_rfl, rfl⟩
theorem ent91 : Ent Try.prog 91 := ⟨_, Try.func91, by kernel_rfl, rfl⟩
theorem ent92 : Ent Try.prog 92 := ⟨_, Try.func92, by kernel_rfl, rfl⟩
theorem ent93 : Ent Try.prog 93 := ⟨_, Try.func93, by kernel_rfl, rfl⟩
theorem ent94 : Ent Try.prog 94 := ⟨_, Try.func94, by kernel_rfl, rfl⟩
theorem ent95 : Ent Try.prog 95 := ⟨_, Try.func95, by kernel_rfl, rfl⟩
theorem ent96 : Ent Try.prog 96 := ⟨_, Try.func96, by kernel_rfl, rfl⟩
theorem ent97 : Ent Try.prog 97 := ⟨_, Try.func97, by kernel_rfl, rfl⟩
theorem ent98 : Ent Try.prog 98 := ⟨_, Try.func98, by kernel_rfl, rfl⟩
end Go.Proofs.Ytnfcjdgmhbhecaa
