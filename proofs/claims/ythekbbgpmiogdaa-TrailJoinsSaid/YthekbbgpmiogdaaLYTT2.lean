/- PRINTED BY wip/tools/mktt.py: what the evaluator knows of the types of the program Ythekbbgpmiogdaa. -/
import Derived.Test.YthekbbgpmiogdaaProg
import Derived.Test.YthekbbgpmiogdaaLA3
namespace Go.Proofs.Ythekbbgpmiogdaa
open Go Go.Lift

def TT : TTab := fun t => match t with
  | 2 => some ⟨(some .i64), none, 1, 8, false, true, [.v (.int .i64 0)], .oth⟩
  | 3 => some ⟨(some .i64), none, 1, 8, false, true, [.v (.int .i64 0)], .oth⟩
  | 4 => some ⟨none, none, 1, 1, false, true, [.v (.bool false)], .bool⟩
  | 5 => some ⟨(some .u8), none, 1, 1, false, true, [.v (.int .u8 0)], .oth⟩
  | 9 => some ⟨none, none, 1, 16, false, true, [.v (.string ⟨#[]⟩)], .str⟩
  | 12 => some ⟨(some .u64), none, 1, 8, false, true, [.v (.int .u64 0)], .oth⟩
  | 21 => some ⟨(some .i32), none, 1, 4, false, true, [.v (.int .i32 0)], .oth⟩
  | 23 => some ⟨none, none, 1, 16, false, true, [.v (.complex .f64 0 0)], .oth⟩
  | 24 => some ⟨none, (some [.complex, .complex]), 2, 32, true, true, [.v (.complex .f64 0 0), .v (.complex .f64 0 0)], (.struct [(0, 23), (1, 23)])⟩
  | 25 => some ⟨none, (some [.complex, .complex]), 2, 32, true, true, [.v (.complex .f64 0 0), .v (.complex .f64 0 0)], (.struct [(0, 23), (1, 23)])⟩
  | 29 => some ⟨none, none, 1, 24, false, false, [.row 9], (.slice 9)⟩
  | 30 => some ⟨none, (some [.complex, .complex, .complex, .complex, .int .i64, .int .i64]), 6, 80, true, true, [.v (.complex .f64 0 0), .v (.complex .f64 0 0), .v (.complex .f64 0 0), .v (.complex .f64 0 0), .v (.int .i64 0), .v (.int .i64 0)], (.struct [(0, 23), (1, 23), (2, 23), (3, 23), (4, 3), (5, 3)])⟩
  | 31 => some ⟨none, (some [.complex, .complex, .complex, .complex, .int .i64, .int .i64]), 6, 80, true, true, [.v (.complex .f64 0 0), .v (.complex .f64 0 0), .v (.complex .f64 0 0), .v (.complex .f64 0 0), .v (.int .i64 0), .v (.int .i64 0)], (.struct [(0, 23), (1, 23), (2, 23), (3, 23), (4, 3), (5, 3)])⟩
  | 35 => some ⟨none, (some [.int .i64, .int .i64]), 2, 16, true, true, [.v (.int .i64 0), .v (.int .i64 0)], (.struct [(0, 3), (1, 3)])⟩
  | 36 => some ⟨none, (some [.int .i64, .int .i64]), 2, 16, true, true, [.v (.int .i64 0), .v (.int .i64 0)], (.struct [(0, 3), (1, 3)])⟩
  | 37 => some ⟨none, (some [.int .i64, .int .i64, .int .i64, .int .i64, .int .i64, .int .i64, .int .i64, .int .i64, .int .i64, .int .i64]), 10, 80, true, true, [.v (.int .i64 0), .v (.int .i64 0), .v (.int .i64 0), .v (.int .i64 0), .v (.int .i64 0), .v (.int .i64 0), .v (.int .i64 0), .v (.int .i64 0), .v (.int .i64 0), .v (.int .i64 0)], (.struct [(0, 36), (2, 36), (4, 36), (6, 36), (8, 3), (9, 3)])⟩
  | 38 => some ⟨none, (some [.int .i64, .int .i64, .int .i64, .int .i64, .int .i64, .int .i64, .int .i64, .int .i64, .int .i64, .int .i64]), 10, 80, true, true, [.v (.int .i64 0), .v (.int .i64 0), .v (.int .i64 0), .v (.int .i64 0), .v (.int .i64 0), .v (.int .i64 0), .v (.int .i64 0), .v (.int .i64 0), .v (.int .i64 0), .v (.int .i64 0)], (.struct [(0, 36), (2, 36), (4, 36), (6, 36), (8, 3), (9, 3)])⟩
  | 45 => some ⟨none, none, 1, 8, false, true, [.v (.float .f64 0)], .float⟩
  | 50 => some ⟨none, none, 1, 24, false, false, [.row 5], (.slice 5)⟩
  | 51 => some ⟨none, none, 1, 24, false, false, [.row 25], (.slice 25)⟩
  | 53 => some ⟨none, none, 1, 24, false, false, [.row 31], (.slice 31)⟩
  | 56 => some ⟨none, none, 1, 24, false, false, [.row 36], (.slice 36)⟩
  | 64 => some ⟨(some .u64), none, 1, 8, false, true, [.v (.int .u64 0)], .oth⟩
  | 67 => some ⟨none, none, 1, 24, false, false, [.row 23], (.slice 23)⟩
  | 75 => some ⟨(some .u32), none, 1, 4, false, true, [.v (.int .u32 0)], .oth⟩
  | 79 => some ⟨none, none, 1, 8, false, false, [.v (.pointer none)], .oth⟩
  | _ => none

@[go_sem] theorem TTe2 : TT 2 = some ⟨(some .i64), none, 1, 8, false, true, [.v (.int .i64 0)], .oth⟩ := rfl
@[go_sem] theorem TTe3 : TT 3 = some ⟨(some .i64), none, 1, 8, false, true, [.v (.int .i64 0)], .oth⟩ := rfl
@[go_sem] theorem TTe4 : TT 4 = some ⟨none, none, 1, 1, false, true, [.v (.bool false)], .bool⟩ := rfl
@[go_sem] theorem TTe5 : TT 5 = some ⟨(some .u8), none, 1, 1, false, true, [.v (.int .u8 0)], .oth⟩ := rfl
@[go_sem] theorem TTe9 : TT 9 = some ⟨none, none, 1, 16, false, true, [.v (.string ⟨#[]⟩)], .str⟩ := rfl
@[go_sem] theorem TTe12 : TT 12 = some ⟨(some .u64), none, 1, 8, false, true, [.v (.int .u64 0)], .oth⟩ := rfl
@[go_sem] theorem TTe21 : TT 21 = some ⟨(some .i32), none, 1, 4, false, true, [.v (.int .i32 0)], .oth⟩ := rfl
@[go_sem] theorem TTe23 : TT 23 = some ⟨none, none, 1, 16, false, true, [.v (.complex .f64 0 0)], .oth⟩ := rfl
@[go_sem] theorem TTe24 : TT 24 = some ⟨none, (some [.complex, .complex]), 2, 32, true, true, [.v (.complex .f64 0 0), .v (.complex .f64 0 0)], (.struct [(0, 23), (1, 23)])⟩ := rfl
@[go_sem] theorem TTe25 : TT 25 = some ⟨none, (some [.complex, .complex]), 2, 32, true, true, [.v (.complex .f64 0 0), .v (.complex .f64 0 0)], (.struct [(0, 23), (1, 23)])⟩ := rfl
@[go_sem] theorem TTe29 : TT 29 = some ⟨none, none, 1, 24, false, false, [.row 9], (.slice 9)⟩ := rfl
@[go_sem] theorem TTe30 : TT 30 = some ⟨none, (some [.complex, .complex, .complex, .complex, .int .i64, .int .i64]), 6, 80, true, true, [.v (.complex .f64 0 0), .v (.complex .f64 0 0), .v (.complex .f64 0 0), .v (.complex .f64 0 0), .v (.int .i64 0), .v (.int .i64 0)], (.struct [(0, 23), (1, 23), (2, 23), (3, 23), (4, 3), (5, 3)])⟩ := rfl
@[go_sem] theorem TTe31 : TT 31 = some ⟨none, (some [.complex, .complex, .complex, .complex, .int .i64, .int .i64]), 6, 80, true, true, [.v (.complex .f64 0 0), .v (.complex .f64 0 0), .v (.complex .f64 0 0), .v (.complex .f64 0 0), .v (.int .i64 0), .v (.int .i64 0)], (.struct [(0, 23), (1, 23), (2, 23), (3, 23), (4, 3), (5, 3)])⟩ := rfl
@[go_sem] theorem TTe35 : TT 35 = some ⟨none, (some [.int .i64, .int .i64]), 2, 16, true, true, [.v (.int .i64 0), .v (.int .i64 0)], (.struct [(0, 3), (1, 3)])⟩ := rfl
@[go_sem] theorem TTe36 : TT 36 = some ⟨none, (some [.int .i64, .int .i64]), 2, 16, true, true, [.v (.int .i64 0), .v (.int .i64 0)], (.struct [(0, 3), (1, 3)])⟩ := rfl
@[go_sem] theorem TTe37 : TT 37 = some ⟨none, (some [.int .i64, .int .i64, .int .i64, .int .i64, .int .i64, .int .i64, .int .i64, .int .i64, .int .i64, .int .i64]), 10, 80, true, true, [.v (.int .i64 0), .v (.int .i64 0), .v (.int .i64 0), .v (.int .i64 0), .v (.int .i64 0), .v (.int .i64 0), .v (.int .i64 0), .v (.int .i64 0), .v (.int .i64 0), .v (.int .i64 0)], (.struct [(0, 36), (2, 36), (4, 36), (6, 36), (8, 3), (9, 3)])⟩ := rfl
@[go_sem] theorem TTe38 : TT 38 = some ⟨none, (some [.int .i64, .int .i64, .int .i64, .int .i64, .int .i64, .int .i64, .int .i64, .int .i64, .int .i64, .int .i64]), 10, 80, true, true, [.v (.int .i64 0), .v (.int .i64 0), .v (.int .i64 0), .v (.int .i64 0), .v (.int .i64 0), .v (.int .i64 0), .v (.int .i64 0), .v (.int .i64 0), .v (.int .i64 0), .v (.int .i64 0)], (.struct [(0, 36), (2, 36), (4, 36), (6, 36), (8, 3), (9, 3)])⟩ := rfl
@[go_sem] theorem TTe45 : TT 45 = some ⟨none, none, 1, 8, false, true, [.v (.float .f64 0)], .float⟩ := rfl
@[go_sem] theorem TTe50 : TT 50 = some ⟨none, none, 1, 24, false, false, [.row 5], (.slice 5)⟩ := rfl
@[go_sem] theorem TTe51 : TT 51 = some ⟨none, none, 1, 24, false, false, [.row 25], (.slice 25)⟩ := rfl
@[go_sem] theorem TTe53 : TT 53 = some ⟨none, none, 1, 24, false, false, [.row 31], (.slice 31)⟩ := rfl
@[go_sem] theorem TTe56 : TT 56 = some ⟨none, none, 1, 24, false, false, [.row 36], (.slice 36)⟩ := rfl
@[go_sem] theorem TTe64 : TT 64 = some ⟨(some .u64), none, 1, 8, false, true, [.v (.int .u64 0)], .oth⟩ := rfl
@[go_sem] theorem TTe67 : TT 67 = some ⟨none, none, 1, 24, false, false, [.row 23], (.slice 23)⟩ := rfl
@[go_sem] theorem TTe75 : TT 75 = some ⟨(some .u32), none, 1, 4, false, true, [.v (.int .u32 0)], .oth⟩ := rfl
@[go_sem] theorem TTe79 : TT 79 = some ⟨none, none, 1, 8, false, false, [.v (.pointer none)], .oth⟩ := rfl
theorem TTe : True := trivial
theorem tt2 : TIok Try.prog 2 ⟨(some .i64), none, 1, 8, false, true, [.v (.int .i64 0)], .oth⟩ :=
  TIok.mk' (z := ((.int .i64 0))) (by kernel_rfl) (by simp [zOk, Value.cells, Value.oneCell']) rfl (by decide) Try.underlying2 trivial rfl (fun k h => by cases h; exact Try.underlying2) (fun ks h => by cases h)
theorem tt3 : TIok Try.prog 3 ⟨(some .i64), none, 1, 8, false, true, [.v (.int .i64 0)], .oth⟩ :=
  TIok.mk' (z := ((.int .i64 0))) (by kernel_rfl) (by simp [zOk, Value.cells, Value.oneCell']) rfl (by decide) Try.underlying3 trivial rfl (fun k h => by cases h; exact Try.underlying3) (fun ks h => by cases h)
theorem tt4 : TIok Try.prog 4 ⟨none, none, 1, 1, false, true, [.v (.bool false)], .bool⟩ :=
  TIok.mk' (z := ((.bool false))) (by kernel_rfl) (by simp [zOk, Value.cells, Value.oneCell']) rfl (by decide) Try.underlying4 rfl rfl (fun k h => by cases h) (fun ks h => by cases h)
theorem tt5 : TIok Try.prog 5 ⟨(some .u8), none, 1, 1, false, true, [.v (.int .u8 0)], .oth⟩ :=
  TIok.mk' (z := ((.int .u8 0))) (by kernel_rfl) (by simp [zOk, Value.cells, Value.oneCell']) rfl (by decide) Try.underlying5 trivial rfl (fun k h => by cases h; exact Try.underlying5) (fun ks h => by cases h)
theorem tt9 : TIok Try.prog 9 ⟨none, none, 1, 16, false, true, [.v (.string ⟨#[]⟩)], .str⟩ :=
  TIok.mk' (z := ((.string ⟨#[]⟩))) (by kernel_rfl) (by simp [zOk, Value.cells, Value.oneCell']) rfl (by decide) Try.underlying9 rfl rfl (fun k h => by cases h) (fun ks h => by cases h)
theorem tt12 : TIok Try.prog 12 ⟨(some .u64), none, 1, 8, false, true, [.v (.int .u64 0)], .oth⟩ :=
  TIok.mk' (z := ((.int .u64 0))) (by kernel_rfl) (by simp [zOk, Value.cells, Value.oneCell']) rfl (by decide) Try.underlying12 trivial rfl (fun k h => by cases h; exact Try.underlying12) (fun ks h => by cases h)
theorem tt21 : TIok Try.prog 21 ⟨(some .i32), none, 1, 4, false, true, [.v (.int .i32 0)], .oth⟩ :=
  TIok.mk' (z := ((.int .i32 0))) (by kernel_rfl) (by simp [zOk, Value.cells, Value.oneCell']) rfl (by decide) Try.underlying21 trivial rfl (fun k h => by cases h; exact Try.underlying21) (fun ks h => by cases h)
theorem tt23 : TIok Try.prog 23 ⟨none, none, 1, 16, false, true, [.v (.complex .f64 0 0)], .oth⟩ :=
  TIok.mk' (z := ((.complex .f64 0 0))) (by kernel_rfl) (by simp [zOk, Value.cells, Value.oneCell']) rfl (by decide) Try.underlying23 trivial rfl (fun k h => by cases h) (fun ks h => by cases h)
theorem tt24_eq : EqTy Try.prog 2 24 [.complex, .complex] :=
  eqTy_struct Try.underlying24 (by kernel_rfl) (.one rfl rfl Try.underlying23 rfl (scEq_complex 0 Try.underlying23) (.one rfl rfl Try.underlying23 rfl (scEq_complex 0 Try.underlying23) .nil))
theorem tt24 : TIok Try.prog 24 ⟨none, (some [.complex, .complex]), 2, 32, true, true, [.v (.complex .f64 0 0), .v (.complex .f64 0 0)], (.struct [(0, 23), (1, 23)])⟩ :=
  TIok.mk' (z := (.agg #[(.complex .f64 0 0), (.complex .f64 0 0)])) (by kernel_rfl) (by simp [zOk, Value.cells, Value.oneCell']) rfl (by decide) Try.underlying24 ⟨_, rfl, rfl⟩ rfl (fun k h => by cases h) (eqk_flat (by kernel_rfl) (by decide) tt24_eq)
theorem tt25_eq : EqTy Try.prog 2 25 [.complex, .complex] :=
  eqTy_struct Try.underlying25 (by kernel_rfl) (.one rfl rfl Try.underlying23 rfl (scEq_complex 0 Try.underlying23) (.one rfl rfl Try.underlying23 rfl (scEq_complex 0 Try.underlying23) .nil))
theorem tt25 : TIok Try.prog 25 ⟨none, (some [.complex, .complex]), 2, 32, true, true, [.v (.complex .f64 0 0), .v (.complex .f64 0 0)], (.struct [(0, 23), (1, 23)])⟩ :=
  TIok.mk' (z := (.agg #[(.complex .f64 0 0), (.complex .f64 0 0)])) (by kernel_rfl) (by simp [zOk, Value.cells, Value.oneCell']) rfl (by decide) Try.underlying25 ⟨_, rfl, rfl⟩ rfl (fun k h => by cases h) (eqk_flat (by kernel_rfl) (by decide) tt25_eq)
theorem tt29 : TIok Try.prog 29 ⟨none, none, 1, 24, false, false, [.row 9], (.slice 9)⟩ :=
  TIok.mk' (z := ((.slice none 0 0))) (by kernel_rfl) (by simp [zOk, Value.cells, Value.oneCell']) rfl (by decide) Try.underlying29 rfl rfl (fun k h => by cases h) (fun ks h => by cases h)
theorem tt30_eq : EqTy Try.prog 2 30 [.complex, .complex, .complex, .complex, .int .i64, .int .i64] :=
  eqTy_struct Try.underlying30 (by kernel_rfl) (.one rfl rfl Try.underlying23 rfl (scEq_complex 0 Try.underlying23) (.one rfl rfl Try.underlying23 rfl (scEq_complex 0 Try.underlying23) (.one rfl rfl Try.underlying23 rfl (scEq_complex 0 Try.underlying23) (.one rfl rfl Try.underlying23 rfl (scEq_complex 0 Try.underlying23) (.one rfl rfl Try.underlying3 rfl (scEq_int 0 Try.underlying3) (.one rfl rfl Try.underlying3 rfl (scEq_int 0 Try.underlying3) .nil))))))
theorem tt30 : TIok Try.prog 30 ⟨none, (some [.complex, .complex, .complex, .complex, .int .i64, .int .i64]), 6, 80, true, true, [.v (.complex .f64 0 0), .v (.complex .f64 0 0), .v (.complex .f64 0 0), .v (.complex .f64 0 0), .v (.int .i64 0), .v (.int .i64 0)], (.struct [(0, 23), (1, 23), (2, 23), (3, 23), (4, 3), (5, 3)])⟩ :=
  TIok.mk' (z := (.agg #[(.complex .f64 0 0), (.complex .f64 0 0), (.complex .f64 0 0), (.complex .f64 0 0), (.int .i64 0), (.int .i64 0)])) (by kernel_rfl) (by simp [zOk, Value.cells, Value.oneCell']) rfl (by decide) Try.underlying30 ⟨_, rfl, rfl⟩ rfl (fun k h => by cases h) (eqk_flat (by kernel_rfl) (by decide) tt30_eq)
theorem tt31_eq : EqTy Try.prog 2 31 [.complex, .complex, .complex, .complex, .int .i64, .int .i64] :=
  eqTy_struct Try.underlying31 (by kernel_rfl) (.one rfl rfl Try.underlying23 rfl (scEq_complex 0 Try.underlying23) (.one rfl rfl Try.underlying23 rfl (scEq_complex 0 Try.underlying23) (.one rfl rfl Try.underlying23 rfl (scEq_complex 0 Try.underlying23) (.one rfl rfl Try.underlying23 rfl (scEq_complex 0 Try.underlying23) (.one rfl rfl Try.underlying3 rfl (scEq_int 0 Try.underlying3) (.one rfl rfl Try.underlying3 rfl (scEq_int 0 Try.underlying3) .nil))))))
theorem tt31 : TIok Try.prog 31 ⟨none, (some [.complex, .complex, .complex, .complex, .int .i64, .int .i64]), 6, 80, true, true, [.v (.complex .f64 0 0), .v (.complex .f64 0 0), .v (.complex .f64 0 0), .v (.complex .f64 0 0), .v (.int .i64 0), .v (.int .i64 0)], (.struct [(0, 23), (1, 23), (2, 23), (3, 23), (4, 3), (5, 3)])⟩ :=
  TIok.mk' (z := (.agg #[(.complex .f64 0 0), (.complex .f64 0 0), (.complex .f64 0 0), (.complex .f64 0 0), (.int .i64 0), (.int .i64 0)])) (by kernel_rfl) (by simp [zOk, Value.cells, Value.oneCell']) rfl (by decide) Try.underlying31 ⟨_, rfl, rfl⟩ rfl (fun k h => by cases h) (eqk_flat (by kernel_rfl) (by decide) tt31_eq)
theorem tt35_eq : EqTy Try.prog 2 35 [.int .i64, .int .i64] :=
  eqTy_struct Try.underlying35 (by kernel_rfl) (.one rfl rfl Try.underlying3 rfl (scEq_int 0 Try.underlying3) (.one rfl rfl Try.underlying3 rfl (scEq_int 0 Try.underlying3) .nil))
theorem tt35 : TIok Try.prog 35 ⟨none, (some [.int .i64, .int .i64]), 2, 16, true, true, [.v (.int .i64 0), .v (.int .i64 0)], (.struct [(0, 3), (1, 3)])⟩ :=
  TIok.mk' (z := (.agg #[(.int .i64 0), (.int .i64 0)])) (by kernel_rfl) (by simp [zOk, Value.cells, Value.oneCell']) rfl (by decide) Try.underlying35 ⟨_, rfl, rfl⟩ rfl (fun k h => by cases h) (eqk_flat (by kernel_rfl) (by decide) tt35_eq)
theorem tt36_eq : EqTy Try.prog 2 36 [.int .i64, .int .i64] :=
  eqTy_struct Try.underlying36 (by kernel_rfl) (.one rfl rfl Try.underlying3 rfl (scEq_int 0 Try.underlying3) (.one rfl rfl Try.underlying3 rfl (scEq_int 0 Try.underlying3) .nil))
theorem tt36 : TIok Try.prog 36 ⟨none, (some [.int .i64, .int .i64]), 2, 16, true, true, [.v (.int .i64 0), .v (.int .i64 0)], (.struct [(0, 3), (1, 3)])⟩ :=
  TIok.mk' (z := (.agg #[(.int .i64 0), (.int .i64 0)])) (by kernel_rfl) (by simp [zOk, Value.cells, Value.oneCell']) rfl (by decide) Try.underlying36 ⟨_, rfl, rfl⟩ rfl (fun k h => by cases h) (eqk_flat (by kernel_rfl) (by decide) tt36_eq)
theorem tt37_eq : EqTy Try.prog 3 37 [.int .i64, .int .i64, .int .i64, .int .i64, .int .i64, .int .i64, .int .i64, .int .i64, .int .i64, .int .i64] :=
  eqTy_struct Try.underlying37 (by kernel_rfl) (.sub (ks1 := [.int .i64, .int .i64]) (ks := [.int .i64, .int .i64, .int .i64, .int .i64, .int .i64, .int .i64, .int .i64, .int .i64]) rfl rfl Try.underlying36 (by kernel_rfl) (tt36_eq.up (by decide)) (.sub (ks1 := [.int .i64, .int .i64]) (ks := [.int .i64, .int .i64, .int .i64, .int .i64, .int .i64, .int .i64]) rfl rfl Try.underlying36 (by kernel_rfl) (tt36_eq.up (by decide)) (.sub (ks1 := [.int .i64, .int .i64]) (ks := [.int .i64, .int .i64, .int .i64, .int .i64]) rfl rfl Try.underlying36 (by kernel_rfl) (tt36_eq.up (by decide)) (.sub (ks1 := [.int .i64, .int .i64]) (ks := [.int .i64, .int .i64]) rfl rfl Try.underlying36 (by kernel_rfl) (tt36_eq.up (by decide)) (.one rfl rfl Try.underlying3 rfl (scEq_int 1 Try.underlying3) (.one rfl rfl Try.underlying3 rfl (scEq_int 1 Try.underlying3) .nil))))))
theorem tt37 : TIok Try.prog 37 ⟨none, (some [.int .i64, .int .i64, .int .i64, .int .i64, .int .i64, .int .i64, .int .i64, .int .i64, .int .i64, .int .i64]), 10, 80, true, true, [.v (.int .i64 0), .v (.int .i64 0), .v (.int .i64 0), .v (.int .i64 0), .v (.int .i64 0), .v (.int .i64 0), .v (.int .i64 0), .v (.int .i64 0), .v (.int .i64 0), .v (.int .i64 0)], (.struct [(0, 36), (2, 36), (4, 36), (6, 36), (8, 3), (9, 3)])⟩ :=
  TIok.mk' (z := (.agg #[(.int .i64 0), (.int .i64 0), (.int .i64 0), (.int .i64 0), (.int .i64 0), (.int .i64 0), (.int .i64 0), (.int .i64 0), (.int .i64 0), (.int .i64 0)])) (by kernel_rfl) (by simp [zOk, Value.cells, Value.oneCell']) rfl (by decide) Try.underlying37 ⟨_, rfl, rfl⟩ rfl (fun k h => by cases h) (eqk_flat (by kernel_rfl) (by decide) tt37_eq)
theorem tt38_eq : EqTy Try.prog 3 38 [.int .i64, .int .i64, .int .i64, .int .i64, .int .i64, .int .i64, .int .i64, .int .i64, .int .i64, .int .i64] :=
  eqTy_struct Try.underlying38 (by kernel_rfl) (.sub (ks1 := [.int .i64, .int .i64]) (ks := [.int .i64, .int .i64, .int .i64, .int .i64, .int .i64, .int .i64, .int .i64, .int .i64]) rfl rfl Try.underlying36 (by kernel_rfl) (tt36_eq.up (by decide)) (.sub (ks1 := [.int .i64, .int .i64]) (ks := [.int .i64, .int .i64, .int .i64, .int .i64, .int .i64, .int .i64]) rfl rfl Try.underlying36 (by kernel_rfl) (tt36_eq.up (by decide)) (.sub (ks1 := [.int .i64, .int .i64]) (ks := [.int .i64, .int .i64, .int .i64, .int .i64]) rfl rfl Try.underlying36 (by kernel_rfl) (tt36_eq.up (by decide)) (.sub (ks1 := [.int .i64, .int .i64]) (ks := [.int .i64, .int .i64]) rfl rfl Try.underlying36 (by kernel_rfl) (tt36_eq.up (by decide)) (.one rfl rfl Try.underlying3 rfl (scEq_int 1 Try.underlying3) (.one rfl rfl Try.underlying3 rfl (scEq_int 1 Try.underlying3) .nil))))))
theorem tt38 : TIok Try.prog 38 ⟨none, (some [.int .i64, .int .i64, .int .i64, .int .i64, .int .i64, .int .i64, .int .i64, .int .i64, .int .i64, .int .i64]), 10, 80, true, true, [.v (.int .i64 0), .v (.int .i64 0), .v (.int .i64 0), .v (.int .i64 0), .v (.int .i64 0), .v (.int .i64 0), .v (.int .i64 0), .v (.int .i64 0), .v (.int .i64 0), .v (.int .i64 0)], (.struct [(0, 36), (2, 36), (4, 36), (6, 36), (8, 3), (9, 3)])⟩ :=
  TIok.mk' (z := (.agg #[(.int .i64 0), (.int .i64 0), (.int .i64 0), (.int .i64 0), (.int .i64 0), (.int .i64 0), (.int .i64 0), (.int .i64 0), (.int .i64 0), (.int .i64 0)])) (by kernel_rfl) (by simp [zOk, Value.cells, Value.oneCell']) rfl (by decide) Try.underlying38 ⟨_, rfl, rfl⟩ rfl (fun k h => by cases h) (eqk_flat (by kernel_rfl) (by decide) tt38_eq)
theorem tt45 : TIok Try.prog 45 ⟨none, none, 1, 8, false, true, [.v (.float .f64 0)], .float⟩ :=
  TIok.mk' (z := ((.float .f64 0))) (by kernel_rfl) (by simp [zOk, Value.cells, Value.oneCell']) rfl (by decide) Try.underlying45 rfl rfl (fun k h => by cases h) (fun ks h => by cases h)
theorem tt50 : TIok Try.prog 50 ⟨none, none, 1, 24, false, false, [.row 5], (.slice 5)⟩ :=
  TIok.mk' (z := ((.slice none 0 0))) (by kernel_rfl) (by simp [zOk, Value.cells, Value.oneCell']) rfl (by decide) Try.underlying50 rfl rfl (fun k h => by cases h) (fun ks h => by cases h)
theorem tt51 : TIok Try.prog 51 ⟨none, none, 1, 24, false, false, [.row 25], (.slice 25)⟩ :=
  TIok.mk' (z := ((.slice none 0 0))) (by kernel_rfl) (by simp [zOk, Value.cells, Value.oneCell']) rfl (by decide) Try.underlying51 rfl rfl (fun k h => by cases h) (fun ks h => by cases h)
theorem tt53 : TIok Try.prog 53 ⟨none, none, 1, 24, false, false, [.row 31], (.slice 31)⟩ :=
  TIok.mk' (z := ((.slice none 0 0))) (by kernel_rfl) (by simp [zOk, Value.cells, Value.oneCell']) rfl (by decide) Try.underlying53 rfl rfl (fun k h => by cases h) (fun ks h => by cases h)
theorem tt56 : TIok Try.prog 56 ⟨none, none, 1, 24, false, false, [.row 36], (.slice 36)⟩ :=
  TIok.mk' (z := ((.slice none 0 0))) (by kernel_rfl) (by simp [zOk, Value.cells, Value.oneCell']) rfl (by decide) Try.underlying56 rfl rfl (fun k h => by cases h) (fun ks h => by cases h)
theorem tt64 : TIok Try.prog 64 ⟨(some .u64), none, 1, 8, false, true, [.v (.int .u64 0)], .oth⟩ :=
  TIok.mk' (z := ((.int .u64 0))) (by kernel_rfl) (by simp [zOk, Value.cells, Value.oneCell']) rfl (by decide) Try.underlying64 trivial rfl (fun k h => by cases h; exact Try.underlying64) (fun ks h => by cases h)
theorem tt67 : TIok Try.prog 67 ⟨none, none, 1, 24, false, false, [.row 23], (.slice 23)⟩ :=
  TIok.mk' (z := ((.slice none 0 0))) (by kernel_rfl) (by simp [zOk, Value.cells, Value.oneCell']) rfl (by decide) Try.underlying67 rfl rfl (fun k h => by cases h) (fun ks h => by cases h)
theorem tt75 : TIok Try.prog 75 ⟨(some .u32), none, 1, 4, false, true, [.v (.int .u32 0)], .oth⟩ :=
  TIok.mk' (z := ((.int .u32 0))) (by kernel_rfl) (by simp [zOk, Value.cells, Value.oneCell']) rfl (by decide) Try.underlying75 trivial rfl (fun k h => by cases h; exact Try.underlying75) (fun ks h => by cases h)
theorem tt79 : TIok Try.prog 79 ⟨none, none, 1, 8, false, false, [.v (.pointer none)], .oth⟩ :=
  TIok.mk' (z := ((.pointer none))) (by kernel_rfl) (by simp [zOk, Value.cells, Value.oneCell']) rfl (by decide) Try.underlying79 trivial rfl (fun k h => by cases h) (fun ks h => by cases h)
theorem ttok : TTok Try.prog TT := by
  intro t i h
  unfold TT at h
  split at h <;> first | (cases h; done) | (cases h; first | exact tt2 | exact tt3 | exact tt4 | exact tt5 | exact tt9 | exact tt12 | exact tt21 | exact tt23 | exact tt24 | exact tt25 | exact tt29 | exact tt30 | exact tt31 | exact tt35 | exact tt36 | exact tt37 | exact tt38 | exact tt45 | exact tt50 | exact tt51 | exact tt53 | exact tt56 | exact tt64 | exact tt67 | exact tt75 | exact tt79)
theorem mixed : Try.prog.follows .mixedOrders = true := by kernel_rfl
theorem ent3 : Ent Try.prog 3 := ⟨_, Try.func3, by kernel_rfl, rfl⟩
theorem ent4 : Ent Try.prog 4 := ⟨_, Try.func4, by kernel_rfl, rfl⟩
theorem ent5 : Ent Try.prog 5 := ⟨_, Try.func5, by kernel_rfl, rfl⟩
theorem ent6 : Ent Try.prog 6 := ⟨_, Try.func6, by kernel_rfl, rfl⟩
theorem ent7 : Ent Try.prog 7 := ⟨_, Try.func7, by kernel_rfl, rfl⟩
theorem ent8 : Ent Try.prog 8 := ⟨_, Try.func8, by kernel_rfl, rfl⟩
theorem ent9 : Ent Try.prog 9 := ⟨_, Try.func9, by kernel_rfl, rfl⟩
theorem ent10 : Ent Try.prog 10 := ⟨_, Try.func10, by kernel_rfl, rfl⟩
theorem ent11 : Ent Try.prog 11 := ⟨_, Try.func11, by kernel_rfl, rfl⟩
theorem ent12 : Ent Try.prog 12 := ⟨_, Try.func12, by kernel_rfl, rfl⟩
theorem ent13 : Ent Try.prog 13 := ⟨_, Try.func13, by kernel_rfl, rfl⟩
theorem ent14 : Ent Try.prog 14 := ⟨_, Try.func14, by kernel_rfl, rfl⟩
theorem ent15 : Ent Try.prog 15 := ⟨_, Try.func15, by kernel_rfl, rfl⟩
theorem ent16 : Ent Try.prog 16 := ⟨_, Try.func16, by kernel_rfl, rfl⟩
theorem ent17 : Ent Try.prog 17 := ⟨_, Try.func17, by kernel_rfl, rfl⟩
theorem ent18 : Ent Try.prog 18 := ⟨_, Try.func18, by kernel_rfl, rfl⟩
theorem ent19 : Ent Try.prog 19 := ⟨_, Try.func19, by kernel_rfl, rfl⟩
theorem ent20 : Ent Try.prog 20 := ⟨_, Try.func20, by kernel_rfl, rfl⟩
theorem ent21 : Ent Try.prog 21 := ⟨_, Try.func21, by kernel_rfl, rfl⟩
theorem ent22 : Ent Try.prog 22 := ⟨_, Try.func22, by kernel_rfl, rfl⟩
theorem ent23 : Ent Try.prog 23 := ⟨_, Try.func23, by kernel_rfl, rfl⟩
theorem ent24 : Ent Try.prog 24 := ⟨_, Try.func24, by kernel_rfl, rfl⟩
theorem ent25 : Ent Try.prog 25 := ⟨_, Try.func25, by kernel_rfl, rfl⟩
theorem ent26 : Ent Try.prog 26 := ⟨_, Try.func26, by kernel_rfl, rfl⟩
theorem ent27 : Ent Try.prog 27 := ⟨_, Try.func27, by kernel_rfl, rfl⟩
theorem ent28 : Ent Try.prog 28 := ⟨_, Try.func28, by kernel_rfl, rfl⟩
theorem ent29 : Ent Try.prog 29 := ⟨_, Try.func29, by kernel_rfl, rfl⟩
theorem ent30 : Ent Try.prog 30 := ⟨_, Try.func30, by kernel_rfl, rfl⟩
theorem ent31 : Ent Try.prog 31 := ⟨_, Try.func31, by kernel_rfl, rfl⟩
end Go.Proofs.Ythekbbgpmiogdaa
