import Derived.Test.YtaaopphbgbbedaaProg
import Derived.Shelf.Strings.Search1
import Derived.Shelf.Strings.Search2
import Derived.Shelf.Strings.Cut
import Derived.Lib.IndexLaws
import Derived.Lib.Bytealg
import Derived.Shelf.Strings.Builder1
import Derived.Lib.AppendStr
import Derived.Test.YtaaopphbgbbedaaLA2
set_option linter.unusedVariables false
set_option linter.unusedSimpArgs false
/- PRINTED BY wip/tools/mktt.py: what the evaluator knows of the types of the program Ytaaopphbgbbedaa. -/
namespace Go.Proofs.Ytaaopphbgbbedaa
open Go Go.Lift
set_option maxRecDepth 20000

def TT : TTab := fun t => match t with
  | 2 => some ⟨(some .i64), none, 1, 8, false, true, [.v (.int .i64 0)], .oth⟩
  | 3 => some ⟨(some .i64), none, 1, 8, false, true, [.v (.int .i64 0)], .oth⟩
  | 4 => some ⟨none, none, 1, 1, false, true, [.v (.bool false)], .bool⟩
  | 5 => some ⟨(some .u8), none, 1, 1, false, true, [.v (.int .u8 0)], .oth⟩
  | 9 => some ⟨none, none, 1, 16, false, true, [.v (.string ⟨#[]⟩)], .str⟩
  | 12 => some ⟨(some .u64), none, 1, 8, false, true, [.v (.int .u64 0)], .oth⟩
  | 21 => some ⟨(some .i32), none, 1, 4, false, true, [.v (.int .i32 0)], .oth⟩
  | 23 => some ⟨none, none, 1, 24, false, false, [.row 32], (.slice 32)⟩
  | 24 => some ⟨(some .i64), none, 1, 8, false, true, [.v (.int .i64 0)], .oth⟩
  | 29 => some ⟨none, none, 1, 24, false, false, [.row 33], (.slice 33)⟩
  | 31 => some ⟨none, (some [.int .i64, .int .i64, .bool]), 3, 24, true, true, [.v (.int .i64 0), .v (.int .i64 0), .v (.bool false)], (.struct [(0, 3), (1, 3), (2, 4)])⟩
  | 32 => some ⟨none, (some [.int .i64, .int .i64, .bool]), 3, 24, true, true, [.v (.int .i64 0), .v (.int .i64 0), .v (.bool false)], (.struct [(0, 3), (1, 3), (2, 4)])⟩
  | 33 => some ⟨none, (some [.int .i64, .int .i64, .bool]), 3, 24, true, true, [.v (.int .i64 0), .v (.int .i64 0), .v (.bool false)], (.struct [(0, 3), (1, 3), (2, 4)])⟩
  | 38 => some ⟨none, none, 1, 8, false, false, [.v (.pointer none)], .oth⟩
  | 39 => some ⟨none, none, 1, 24, false, false, [.row 5], (.slice 5)⟩
  | 40 => some ⟨none, none, 2, 32, true, false, [.v (.pointer none), .row 5], (.struct [(0, 38), (1, 39)])⟩
  | 41 => some ⟨none, none, 2, 32, true, false, [.v (.pointer none), .row 5], (.struct [(0, 38), (1, 39)])⟩
  | 48 => some ⟨none, none, 1, 24, false, false, [.row 9], (.slice 9)⟩
  | 51 => some ⟨none, none, 1, 8, false, false, [.v (.pointer none)], .oth⟩
  | 56 => some ⟨(some .u64), none, 1, 8, false, true, [.v (.int .u64 0)], .oth⟩
  | 57 => some ⟨(some .u32), none, 1, 4, false, true, [.v (.int .u32 0)], .oth⟩
  | _ => none

@[go_sem] theorem TTe2 : TT 2 = some ⟨(some .i64), none, 1, 8, false, true, [.v (.int .i64 0)], .oth⟩ := rfl
@[go_sem] theorem TTe3 : TT 3 = some ⟨(some .i64), none, 1, 8, false, true, [.v (.int .i64 0)], .oth⟩ := rfl
@[go_sem] theorem TTe4 : TT 4 = some ⟨none, none, 1, 1, false, true, [.v (.bool false)], .bool⟩ := rfl
@[go_sem] theorem TTe5 : TT 5 = some ⟨(some .u8), none, 1, 1, false, true, [.v (.int .u8 0)], .oth⟩ := rfl
@[go_sem] theorem TTe9 : TT 9 = some ⟨none, none, 1, 16, false, true, [.v (.string ⟨#[]⟩)], .str⟩ := rfl
@[go_sem] theorem TTe12 : TT 12 = some ⟨(some .u64), none, 1, 8, false, true, [.v (.int .u64 0)], .oth⟩ := rfl
@[go_sem] theorem TTe21 : TT 21 = some ⟨(some .i32), none, 1, 4, false, true, [.v (.int .i32 0)], .oth⟩ := rfl
@[go_sem] theorem TTe23 : TT 23 = some ⟨none, none, 1, 24, false, false, [.row 32], (.slice 32)⟩ := rfl
@[go_sem] theorem TTe24 : TT 24 = some ⟨(some .i64), none, 1, 8, false, true, [.v (.int .i64 0)], .oth⟩ := rfl
@[go_sem] theorem TTe29 : TT 29 = some ⟨none, none, 1, 24, false, false, [.row 33], (.slice 33)⟩ := rfl
@[go_sem] theorem TTe31 : TT 31 = some ⟨none, (some [.int .i64, .int .i64, .bool]), 3, 24, true, true, [.v (.int .i64 0), .v (.int .i64 0), .v (.bool false)], (.struct [(0, 3), (1, 3), (2, 4)])⟩ := rfl
@[go_sem] theorem TTe32 : TT 32 = some ⟨none, (some [.int .i64, .int .i64, .bool]), 3, 24, true, true, [.v (.int .i64 0), .v (.int .i64 0), .v (.bool false)], (.struct [(0, 3), (1, 3), (2, 4)])⟩ := rfl
@[go_sem] theorem TTe33 : TT 33 = some ⟨none, (some [.int .i64, .int .i64, .bool]), 3, 24, true, true, [.v (.int .i64 0), .v (.int .i64 0), .v (.bool false)], (.struct [(0, 3), (1, 3), (2, 4)])⟩ := rfl
@[go_sem] theorem TTe38 : TT 38 = some ⟨none, none, 1, 8, false, false, [.v (.pointer none)], .oth⟩ := rfl
@[go_sem] theorem TTe39 : TT 39 = some ⟨none, none, 1, 24, false, false, [.row 5], (.slice 5)⟩ := rfl
@[go_sem] theorem TTe40 : TT 40 = some ⟨none, none, 2, 32, true, false, [.v (.pointer none), .row 5], (.struct [(0, 38), (1, 39)])⟩ := rfl
@[go_sem] theorem TTe41 : TT 41 = some ⟨none, none, 2, 32, true, false, [.v (.pointer none), .row 5], (.struct [(0, 38), (1, 39)])⟩ := rfl
@[go_sem] theorem TTe48 : TT 48 = some ⟨none, none, 1, 24, false, false, [.row 9], (.slice 9)⟩ := rfl
@[go_sem] theorem TTe51 : TT 51 = some ⟨none, none, 1, 8, false, false, [.v (.pointer none)], .oth⟩ := rfl
@[go_sem] theorem TTe56 : TT 56 = some ⟨(some .u64), none, 1, 8, false, true, [.v (.int .u64 0)], .oth⟩ := rfl
@[go_sem] theorem TTe57 : TT 57 = some ⟨(some .u32), none, 1, 4, false, true, [.v (.int .u32 0)], .oth⟩ := rfl
theorem tt2 : TIok Try.prog 2 ⟨(some .i64), none, 1, 8, false, true, [.v (.int .i64 0)], .oth⟩ :=
  TIok.mk' (z := ((.int .i64 0))) (by kernel_rfl) (by simp [zOk, Value.cells, Value.oneCell']) rfl (by decide) Try.underlying2 trivial rfl (fun k h => by cases h; exact Try.underlying2) (fun ks h => by cases h)
theorem tt3 : TIok Try.prog 3 ⟨(some .i64), none, 1, 8, false, true, [.v (.int .i64 0)], .oth⟩ :=
  TIok.mk' (z := ((.int .i64 0))) (by kernel_rfl) (by simp [zOk, Value.cells, Value.oneCell']) rfl (by decide) Try.underlying3 trivial rfl (fun k h => by cases h; exact Try.underlying3) (fun ks h => by cases h)
theorem tt4 : TIok Try.prog 4 ⟨none, none, 1, 1, false, true, [.v (.bool false)], .bool⟩ :=
  TIok.mk' (z := ((.bool false))) (by kernel_rfl) (by simp [zOk, Value.cells, Value.oneCell']) rfl (by decide) Try.underlying4 rfl rfl (fun k h => by cases h) (fun ks h => by cases h)
theorem tt5 : TIok Try.prog 5 ⟨(some .u8), none, 1, 1, false, true, [.v (.int .u8 0)], .oth⟩ :=
  TIok.mk' (z := ((.int .u8 0))) (by kernel_rfl) (by simp [zOk, Value.cells, Value.oneCell']) rfl (by decide) Try.underlying5 trivial rfl (fun k h => by cases h; exact Try.underlying5) (fun ks h => by cases h)
theorem tt9 : TIok Try.prog 9 ⟨none, none, 1, 16, false, true, [.v (.string ⟨#[]⟩)], .str⟩ :=
  TIok.mk' (z := ((.string ⟨#[]⟩))) (by kernel_rfl) (by simp [zOk, Value.cells, Value.oneCell']) rfl (by decide) Try.underlying9 rfl rfl (fun k h => by cases h) (fun ks h => by cases h)
theorem tt12 : TIok Try.prog 12 ⟨(some .u64), none, 1, 8, false, true, [.v (.int .u64 0)], .oth⟩ :=
  TIok.mk' (z := ((.int .u64 0))) (by kernel_rfl) (by simp [zOk, Value.cells, Value.oneCell']) rfl (by decide) Try.underlying12 trivial rfl (fun k h => by cases h; exact Try.underlying12) (fun ks h => by cases h)
theorem tt21 : TIok Try.prog 21 ⟨(some .i32), none, 1, 4, false, true, [.v (.int .i32 0)], .oth⟩ :=
  TIok.mk' (z := ((.int .i32 0))) (by kernel_rfl) (by simp [zOk, Value.cells, Value.oneCell']) rfl (by decide) Try.underlying21 trivial rfl (fun k h => by cases h; exact Try.underlying21) (fun ks h => by cases h)
theorem tt23 : TIok Try.prog 23 ⟨none, none, 1, 24, false, false, [.row 32], (.slice 32)⟩ :=
  TIok.mk' (z := ((.slice none 0 0))) (by kernel_rfl) (by simp [zOk, Value.cells, Value.oneCell']) rfl (by decide) Try.underlying23 rfl rfl (fun k h => by cases h) (fun ks h => by cases h)
theorem tt24 : TIok Try.prog 24 ⟨(some .i64), none, 1, 8, false, true, [.v (.int .i64 0)], .oth⟩ :=
  TIok.mk' (z := ((.int .i64 0))) (by kernel_rfl) (by simp [zOk, Value.cells, Value.oneCell']) rfl (by decide) Try.underlying24 trivial rfl (fun k h => by cases h; exact Try.underlying24) (fun ks h => by cases h)
theorem tt29 : TIok Try.prog 29 ⟨none, none, 1, 24, false, false, [.row 33], (.slice 33)⟩ :=
  TIok.mk' (z := ((.slice none 0 0))) (by kernel_rfl) (by simp [zOk, Value.cells, Value.oneCell']) rfl (by decide) Try.underlying29 rfl rfl (fun k h => by cases h) (fun ks h => by cases h)
theorem tt31_eq : EqTy Try.prog 2 31 [.int .i64, .int .i64, .bool] :=
  eqTy_struct Try.underlying31 (by kernel_rfl) (.one rfl rfl Try.underlying3 rfl (scEq_int 0 Try.underlying3) (.one rfl rfl Try.underlying3 rfl (scEq_int 0 Try.underlying3) (.one rfl rfl Try.underlying4 rfl (scEq_bool 0 Try.underlying4) .nil)))
theorem tt31 : TIok Try.prog 31 ⟨none, (some [.int .i64, .int .i64, .bool]), 3, 24, true, true, [.v (.int .i64 0), .v (.int .i64 0), .v (.bool false)], (.struct [(0, 3), (1, 3), (2, 4)])⟩ :=
  TIok.mk' (z := (.agg #[(.int .i64 0), (.int .i64 0), (.bool false)])) (by kernel_rfl) (by simp [zOk, Value.cells, Value.oneCell']) rfl (by decide) Try.underlying31 ⟨_, rfl, rfl⟩ rfl (fun k h => by cases h) (eqk_flat (by kernel_rfl) (by decide) tt31_eq)
theorem tt32_eq : EqTy Try.prog 2 32 [.int .i64, .int .i64, .bool] :=
  eqTy_struct Try.underlying32 (by kernel_rfl) (.one rfl rfl Try.underlying3 rfl (scEq_int 0 Try.underlying3) (.one rfl rfl Try.underlying3 rfl (scEq_int 0 Try.underlying3) (.one rfl rfl Try.underlying4 rfl (scEq_bool 0 Try.underlying4) .nil)))
theorem tt32 : TIok Try.prog 32 ⟨none, (some [.int .i64, .int .i64, .bool]), 3, 24, true, true, [.v (.int .i64 0), .v (.int .i64 0), .v (.bool false)], (.struct [(0, 3), (1, 3), (2, 4)])⟩ :=
  TIok.mk' (z := (.agg #[(.int .i64 0), (.int .i64 0), (.bool false)])) (by kernel_rfl) (by simp [zOk, Value.cells, Value.oneCell']) rfl (by decide) Try.underlying32 ⟨_, rfl, rfl⟩ rfl (fun k h => by cases h) (eqk_flat (by kernel_rfl) (by decide) tt32_eq)
theorem tt33_eq : EqTy Try.prog 2 33 [.int .i64, .int .i64, .bool] :=
  eqTy_struct Try.underlying33 (by kernel_rfl) (.one rfl rfl Try.underlying3 rfl (scEq_int 0 Try.underlying3) (.one rfl rfl Try.underlying3 rfl (scEq_int 0 Try.underlying3) (.one rfl rfl Try.underlying4 rfl (scEq_bool 0 Try.underlying4) .nil)))
theorem tt33 : TIok Try.prog 33 ⟨none, (some [.int .i64, .int .i64, .bool]), 3, 24, true, true, [.v (.int .i64 0), .v (.int .i64 0), .v (.bool false)], (.struct [(0, 3), (1, 3), (2, 4)])⟩ :=
  TIok.mk' (z := (.agg #[(.int .i64 0), (.int .i64 0), (.bool false)])) (by kernel_rfl) (by simp [zOk, Value.cells, Value.oneCell']) rfl (by decide) Try.underlying33 ⟨_, rfl, rfl⟩ rfl (fun k h => by cases h) (eqk_flat (by kernel_rfl) (by decide) tt33_eq)
theorem tt38 : TIok Try.prog 38 ⟨none, none, 1, 8, false, false, [.v (.pointer none)], .oth⟩ :=
  TIok.mk' (z := ((.pointer none))) (by kernel_rfl) (by simp [zOk, Value.cells, Value.oneCell']) rfl (by decide) Try.underlying38 trivial rfl (fun k h => by cases h) (fun ks h => by cases h)
theorem tt39 : TIok Try.prog 39 ⟨none, none, 1, 24, false, false, [.row 5], (.slice 5)⟩ :=
  TIok.mk' (z := ((.slice none 0 0))) (by kernel_rfl) (by simp [zOk, Value.cells, Value.oneCell']) rfl (by decide) Try.underlying39 rfl rfl (fun k h => by cases h) (fun ks h => by cases h)
theorem tt40 : TIok Try.prog 40 ⟨none, none, 2, 32, true, false, [.v (.pointer none), .row 5], (.struct [(0, 38), (1, 39)])⟩ :=
  TIok.mk' (z := (.agg #[(.pointer none), (.slice none 0 0)])) (by kernel_rfl) (by simp [zOk, Value.cells, Value.oneCell']) rfl (by decide) Try.underlying40 ⟨_, rfl, rfl⟩ rfl (fun k h => by cases h) (fun ks h => by cases h)
theorem tt41 : TIok Try.prog 41 ⟨none, none, 2, 32, true, false, [.v (.pointer none), .row 5], (.struct [(0, 38), (1, 39)])⟩ :=
  TIok.mk' (z := (.agg #[(.pointer none), (.slice none 0 0)])) (by kernel_rfl) (by simp [zOk, Value.cells, Value.oneCell']) rfl (by decide) Try.underlying41 ⟨_, rfl, rfl⟩ rfl (fun k h => by cases h) (fun ks h => by cases h)
theorem tt48 : TIok Try.prog 48 ⟨none, none, 1, 24, false, false, [.row 9], (.slice 9)⟩ :=
  TIok.mk' (z := ((.slice none 0 0))) (by kernel_rfl) (by simp [zOk, Value.cells, Value.oneCell']) rfl (by decide) Try.underlying48 rfl rfl (fun k h => by cases h) (fun ks h => by cases h)
theorem tt51 : TIok Try.prog 51 ⟨none, none, 1, 8, false, false, [.v (.pointer none)], .oth⟩ :=
  TIok.mk' (z := ((.pointer none))) (by kernel_rfl) (by simp [zOk, Value.cells, Value.oneCell']) rfl (by decide) Try.underlying51 trivial rfl (fun k h => by cases h) (fun ks h => by cases h)
theorem tt56 : TIok Try.prog 56 ⟨(some .u64), none, 1, 8, false, true, [.v (.int .u64 0)], .oth⟩ :=
  TIok.mk' (z := ((.int .u64 0))) (by kernel_rfl) (by simp [zOk, Value.cells, Value.oneCell']) rfl (by decide) Try.underlying56 trivial rfl (fun k h => by cases h; exact Try.underlying56) (fun ks h => by cases h)
theorem tt57 : TIok Try.prog 57 ⟨(some .u32), none, 1, 4, false, true, [.v (.int .u32 0)], .oth⟩ :=
  TIok.mk' (z := ((.int .u32 0))) (by kernel_rfl) (by simp [zOk, Value.cells, Value.oneCell']) rfl (by decide) Try.underlying57 trivial rfl (fun k h => by cases h; exact Try.underlying57) (fun ks h => by cases h)
theorem ttok : TTok Try.prog TT := by
  intro t i h
  unfold TT at h
  split at h <;> first | (cases h; done) | (cases h; first | exact tt2 | exact tt3 | exact tt4 | exact tt5 | exact tt9 | exact tt12 | exact tt21 | exact tt23 | exact tt24 | exact tt29 | exact tt31 | exact tt32 | exact tt33 | exact tt38 | exact tt39 | exact tt40 | exact tt41 | exact tt48 | exact tt51 | exact tt56 | exact tt57)
theorem mixed : Try.prog.follows .mixedOrders = true := by kernel_rfl
theorem ent4 : Ent Try.prog 4 := ⟨_, Try.func4, by kernel_rfl, rfl⟩
theorem ent5 : Ent Try.prog 5 := ⟨_, Try.func5, by kernel_rfl, rfl⟩
theorem ent6 : Ent Try.prog 6 := ⟨_, Try.func6, by kernel_rfl, rfl⟩
theorem ent7 : Ent Try.prog 7 := ⟨_, Try.func7, by kernel_rfl, rfl⟩
theorem ent8 : Ent Try.prog 8 := ⟨_, Try.func8, by kernel_rfl, rfl⟩
theorem ent9 : Ent Try.prog 9 := ⟨_, Try.func9, by kernel_rfl, rfl⟩
theorem ent13 : Ent Try.prog 13 := ⟨_, Try.func13, by kernel_rfl, rfl⟩
theorem ent14 : Ent Try.prog 14 := ⟨_, Try.func14, by kernel_rfl, rfl⟩
theorem ent15 : Ent Try.prog 15 := ⟨_, Try.func15, by kernel_rfl, rfl⟩
theorem ent17 : Ent Try.prog 17 := ⟨_, Try.func17, by kernel_rfl, rfl⟩
theorem ent18 : Ent Try.prog 18 := ⟨_, Try.func18, by kernel_rfl, rfl⟩
end Go.Proofs.Ytaaopphbgbbedaa
/- Contracts of Go's library, laid at this program. -/
namespace Go.Proofs
open Go.Shelf
def Try.lays219_ren : Go.Shelf.Ren := ⟨fun | 219 => 17 | 217 => 20 | 225 => 21 | 224 => 22 | 267 => 23 | 266 => 24 | 314 => 25 | n => n, fun | 9 => 9 | 3 => 3 | 4 => 4 | 5 => 5 | 46 => 56 | 146 => 58 | 51 => 57 | n => n, fun | 1 => 0 | n => n⟩
theorem Try.lays219 : Go.Proofs.Lays.n219 Try.prog Try.lays219_ren := {
  mixed := by kernel_rfl
  f217 := Try.func20.trans (congrArg some (by kernel_rfl))
  f219 := Try.func17.trans (congrArg some (by kernel_rfl))
  f224 := Try.func22.trans (congrArg some (by kernel_rfl))
  f225 := Try.func21.trans (congrArg some (by kernel_rfl))
  f266 := Try.func24.trans (congrArg some (by kernel_rfl))
  f267 := Try.func23.trans (congrArg some (by kernel_rfl))
  f314 := Try.func25.trans (congrArg some (by kernel_rfl))
  t3 := Try.underlying3
  a3 := Try.isAgg3
  z3 := Try.sizeOf3
  v3 := Try.zeroValue3
  t4 := Try.underlying4
  a4 := Try.isAgg4
  z4 := Try.sizeOf4
  v4 := Try.zeroValue4
  t5 := Try.underlying5
  a5 := Try.isAgg5
  z5 := Try.sizeOf5
  v5 := Try.zeroValue5
  t9 := Try.underlying9
  a9 := Try.isAgg9
  z9 := Try.sizeOf9
  v9 := Try.zeroValue9
  t46 := Try.underlying56
  a46 := Try.isAgg56
  z46 := Try.sizeOf56
  v46 := Try.zeroValue56
  t51 := Try.underlying57
  a51 := Try.isAgg57
  z51 := Try.sizeOf57
  v51 := Try.zeroValue57
  t146 := Try.underlying58
  a146 := Try.isAgg58
  z146 := Try.sizeOf58
  v146 := Try.zeroValue58
  g1 := by kernel_rfl }
end Go.Proofs
/- Rows of texts (plain). -/
namespace Go.Proofs.Ytaaopphbgbbedaa
open Go

def sc (l : List UInt8) : Nat → Nat
  | 0 => 0
  | k + 1 => if l.getD k 0 = 32 then k + 1 else sc l k
theorem sc_le (l : List UInt8) : ∀ k, sc l k ≤ k
  | 0 => Nat.le_refl _
  | k + 1 => by
    unfold sc
    split
    · exact Nat.le_refl _
    · have := sc_le l k; omega
theorem sc_take (l : List UInt8) (w : Nat) : ∀ k, k ≤ w → sc (l.take w) k = sc l k
  | 0, _ => rfl
  | k + 1, h => by
    unfold sc
    rw [sc_take l w k (by omega)]
    have : (l.take w).getD k 0 = l.getD k 0 := by
      simp only [List.getD_eq_getElem?_getD, List.getElem?_take, if_pos (show k < w by omega)]
    rw [this]
def cutN (l : List UInt8) (w : Nat) : Nat := if l.length ≤ w then l.length else if sc l w = 0 then w else sc l w
theorem cutN_le (l : List UInt8) (w : Nat) : cutN l w ≤ l.length ∧ cutN l w ≤ w ∧ (cutN l w = l.length ↔ l.length ≤ w) := by
  unfold cutN
  have := sc_le l w
  split
  · omega
  · split <;> omega
theorem cutN_pos (l : List UInt8) (w : Nat) (hw : 1 ≤ w) (hl : ¬ l.length ≤ w) : 1 ≤ cutN l w := by
  unfold cutN
  rw [if_neg hl]
  split <;> omega
abbrev Rw := Nat × Nat × Bool
def rowsL (w : Nat) (e : Bool) : Nat → Nat → List UInt8 → List Rw
  | 0, a, l => [(a, a + l.length, e)]
  | f + 1, a, l => if l.length ≤ w then [(a, a + l.length, e)] else (a, a + cutN l w, false) :: rowsL w e f (a + cutN l w) (l.drop (cutN l w))
theorem rowsL_fuel (w : Nat) (e : Bool) (hw : 1 ≤ w) : ∀ (f g a : Nat) (l : List UInt8), l.length ≤ f → l.length ≤ g → rowsL w e f a l = rowsL w e g a l
  | 0, 0, a, l, _, _ => rfl
  | 0, g + 1, a, l, h, _ => by
    unfold rowsL
    rw [if_pos (by omega)]
  | f + 1, 0, a, l, _, h => by
    unfold rowsL
    rw [if_pos (by omega)]
  | f + 1, g + 1, a, l, h1, h2 => by
    unfold rowsL
    split
    · rfl
    · rename_i hl
      have hp := cutN_pos l w hw hl
      have hc := cutN_le l w
      rw [rowsL_fuel w e hw f g _ _ (by rw [List.length_drop]; omega) (by rw [List.length_drop]; omega)]
theorem rowsL_one (w : Nat) (e : Bool) (f a : Nat) (l : List UInt8) (h : l.length ≤ w) : rowsL w e f a l = [(a, a + l.length, e)] := by
  cases f with
  | zero => rfl
  | succ f => unfold rowsL; rw [if_pos h]
theorem rowsL_more (w : Nat) (e : Bool) (hw : 1 ≤ w) (a : Nat) (l : List UInt8) (h : ¬ l.length ≤ w) : rowsL w e l.length a l = (a, a + cutN l w, false) :: rowsL w e (l.drop (cutN l w)).length (a + cutN l w) (l.drop (cutN l w)) := by
  obtain ⟨f, hf⟩ : ∃ f, l.length = f + 1 := ⟨l.length - 1, by omega⟩
  have hp := cutN_pos l w hw h
  have hc := cutN_le l w
  rw [hf, rowsL, if_neg h, rowsL_fuel w e hw f _ _ _ (by rw [List.length_drop]; omega) (Nat.le_refl _)]
def linesOf : List UInt8 → List (List UInt8)
  | [] => [[]]
  | c :: t => if c = 10 then [] :: linesOf t else (c :: (linesOf t).headD []) :: (linesOf t).tail
theorem linesOf_ne (t : List UInt8) : linesOf t ≠ [] := by
  cases t with
  | nil => simp [linesOf]
  | cons c t => unfold linesOf; split <;> simp
theorem linesOf_eta (t : List UInt8) : linesOf t = (linesOf t).headD [] :: (linesOf t).tail := by
  cases h : linesOf t with
  | nil => exact absurd h (linesOf_ne t)
  | cons a b => rfl
theorem linesOf_no (t : List UInt8) (h : (10 : UInt8) ∉ t) : linesOf t = [t] := by
  induction t with
  | nil => rfl
  | cons c t ih =>
    simp only [List.mem_cons, not_or] at h
    unfold linesOf
    rw [if_neg (fun e => h.1 e.symm), ih h.2]
    rfl
theorem linesOf_cut (p q : List UInt8) (h : (10 : UInt8) ∉ p) : linesOf (p ++ 10 :: q) = p :: linesOf q := by
  induction p with
  | nil => rw [List.nil_append, linesOf, if_pos rfl]
  | cons c t ih =>
    simp only [List.mem_cons, not_or] at h
    rw [List.cons_append, linesOf, if_neg (fun e => h.1 e.symm), ih h.2]
    rfl
def rowsA (w : Nat) : Nat → List (List UInt8) → List Rw
  | _, [] => []
  | a, l :: ls => rowsL w (!ls.isEmpty) l.length a l ++ rowsA w (a + l.length + 1) ls
def rowsT (w : Nat) (s : List UInt8) : List Rw := rowsA w 0 (linesOf s)
def showR (s : List UInt8) (l : List Rw) : List UInt8 := l.flatMap fun r => (s.drop r.1).take (r.2.1 - r.1) ++ [10]
theorem showR_snoc (s : List UInt8) (l : List Rw) (r : Rw) : showR s (l ++ [r]) = showR s l ++ ((s.drop r.1).take (r.2.1 - r.1) ++ [10]) := by simp [showR]
theorem cut_nl (t : List UInt8) : (Lib.indexByte t 10 = -1 ∧ (10 : UInt8) ∉ t) ∨ ∃ p q, t = p ++ 10 :: q ∧ (10 : UInt8) ∉ p ∧ Lib.indexByte t 10 = p.length := by
  have hge := Lib.indexByte_ge t 10
  by_cases h : Lib.indexByte t 10 = -1
  · refine .inl ⟨h, fun hm => ?_⟩
    obtain ⟨k, hk⟩ := List.mem_iff_getElem?.1 hm
    exact Lib.indexByte_none h k hk
  · obtain ⟨o, ho⟩ : ∃ o : Nat, Lib.indexByte t 10 = o := ⟨(Lib.indexByte t 10).toNat, by omega⟩
    obtain ⟨h1, h2⟩ := Lib.indexByte_some ho
    have hlt := (List.getElem?_eq_some_iff.1 h1).1
    refine .inr ⟨t.take o, t.drop (o + 1), ?_, fun hm => ?_, ?_⟩
    · have := (List.take_append_drop o t).symm
      rw [List.drop_eq_getElem_cons hlt, (List.getElem?_eq_some_iff.1 h1).2] at this
      exact this
    · obtain ⟨k, hk⟩ := List.mem_iff_getElem?.1 hm
      rw [List.getElem?_take] at hk
      split at hk
      · exact h2 k ‹_› hk
      · cases hk
    · rw [ho, List.length_take]; omega
end Go.Proofs.Ytaaopphbgbbedaa
/- LastIndexByte, Cut, layout.cut. -/
namespace Go.Proofs.Ytaaopphbgbbedaa
open Go Go.Lift
set_option maxHeartbeats 4000000
set_option linter.unusedSimpArgs false
set_option linter.unusedVariables false
attribute [local irreducible] WK IL IP IG IW DW

theorem lastS_call (l : List UInt8) (hl : l.length ≤ 1000000) : SCall Try.prog 18 [.v (.string ⟨l.toArray⟩), .v (.int .u8 32)] (.v (.int .i64 ((sc l l.length : Int) - 1))) [.v (.string ⟨l.toArray⟩), .v (.int .u8 32)] := by
  refine SCall.of_body' (TT := TT) (fun _ => false) [false, false] ttok Try.func18 rfl (Nat.le_of_ble_eq_true rfl) rfl fun fx hfx => WK.top ?_
  simp only [impl, imp, argT, List.append_nil, List.map_nil, List.nil_append, show Try.f18.ntmps = 19 from rfl, Nat.zero_add, Nat.reduceAdd]
  repeat' (first | refine WK.seq ?_ | refine WK.reg ?_ | refine IL.nil ?_ | refine WK.skip ?_ | refine WK.block ?_ | refine WK.exit_here ?_ | refine WK.e1 ?_ | refine WK.e2 ?_ | (with_reducible refine IL.wr ?_ ?_; focus exact cW) | refine IL.sg ttok ?_ | (refine WK.cn (fun h => ?_) (fun h => ?_); all_goals first | (simp only [reduceCtorEq] at h; done) | (simp only [hsA, hsD, hsE, ne_eq] at h; first | done | (exfalso; omega; done) | skip) | skip))
  refine WK.whileS (α := Nat) (fun x => x) (fun x => x ≤ l.length ∧ sc l x = sc l l.length) (fun x => ⟨19, [(0, .v (.string ⟨l.toArray⟩)), (1, .v (.int .u8 32)), (5, .v (.int .i64 ((x : Int) - 1)))], []⟩) l.length ⟨⟨Nat.le_refl _, rfl⟩, ?_⟩ ?_
  · (refine Weak.renS [] hfx rfl ?_ ?_ rfl <;> (simp only [go_sem, reduceIte, exists_eq_left', exists_eq_left, Blk.mk.injEq] <;> (try and_intros) <;> first | rfl | omega))
  · rintro x ⟨hx, hs⟩
    rcases x with _ | k
    · rw [← hs]
      repeat' (first | refine WK.seq ?_ | refine WK.reg ?_ | refine IL.nil ?_ | refine WK.skip ?_ | refine WK.block ?_ | refine WK.exit_here ?_ | refine WK.e1 ?_ | refine WK.e2 ?_ | (with_reducible refine IL.wr ?_ ?_; focus exact cW) | refine IL.sg ttok ?_ | (refine WK.cn (fun h => ?_) (fun h => ?_); all_goals first | (simp only [reduceCtorEq] at h; done) | (simp only [hsA, hsD, hsE, ne_eq] at h; first | done | (exfalso; omega; done) | skip) | skip))
      all_goals try ((first | refine WK.ret ⟨.inr rfl, ?_⟩ | refine ⟨.inl rfl, ?_⟩ | refine ⟨.inl trivial, ?_⟩); refine Fin.o ?_ ?_ (h1 := by first | rfl | (simp only [go_sem, show Try.f18.results.toList = [.tmp 4] from rfl, reduceIte] <;> rfl)); rotate_left 1; (focus (first | rfl | skip)); all_goals try with_reducible rfl)
      all_goals rfl
    · have e : ((k + 1 : Nat) : Int) - 1 = (k : Int) := by omega
      rw [e]
      have hk : k < l.length := hx
      have hc : sc l (k + 1) = if l.getD k 0 = 32 then k + 1 else sc l k := rfl
      by_cases hb : l.getD k 0 = 32
      · rw [if_pos hb, hs] at hc
        rw [hc]
        have hb2 : ((l.getD k 0).toNat : Int) = 32 := by rw [hb]; rfl
        repeat' (first | refine WK.seq ?_ | refine WK.reg ?_ | refine IL.nil ?_ | refine WK.skip ?_ | refine WK.block ?_ | refine WK.exit_here ?_ | refine WK.e1 ?_ | refine WK.e2 ?_ | (with_reducible refine IL.wr ?_ ?_; focus exact cW) | refine IL.sg ttok ?_ | (refine WK.cn (fun h => ?_) (fun h => ?_); all_goals first | (simp only [reduceCtorEq] at h; done) | (simp only [hsA, hsD, hsE, ne_eq] at h; first | done | (exfalso; omega; done) | skip) | skip))
        all_goals try ((first | refine WK.ret ⟨.inr rfl, ?_⟩ | refine ⟨.inl rfl, ?_⟩ | refine ⟨.inl trivial, ?_⟩); refine Fin.o ?_ ?_ (h1 := by first | rfl | (simp only [go_sem, show Try.f18.results.toList = [.tmp 4] from rfl, reduceIte] <;> rfl)); rotate_left 1; (focus (first | rfl | skip)); all_goals try with_reducible rfl)
        all_goals first | (exact absurd hb2 ‹_›) | (rw [e])
      · rw [if_neg hb, hs] at hc
        have hb2 : ¬ ((l.getD k 0).toNat : Int) = 32 := fun h => hb (UInt8.toNat_inj.1 (by rw [show (32 : UInt8).toNat = 32 from rfl]; omega))
        repeat' (first | refine WK.seq ?_ | refine WK.reg ?_ | refine IL.nil ?_ | refine WK.skip ?_ | refine WK.block ?_ | refine WK.exit_here ?_ | refine WK.e1 ?_ | refine WK.e2 ?_ | (with_reducible refine IL.wr ?_ ?_; focus exact cW) | refine IL.sg ttok ?_ | (refine WK.cn (fun h => ?_) (fun h => ?_); all_goals first | (simp only [reduceCtorEq] at h; done) | (simp only [hsA, hsD, hsE, ne_eq] at h; first | done | (exfalso; omega; done) | skip) | skip))
        all_goals try (exact absurd ‹_› hb2)
        refine ⟨k, by omega, ⟨by omega, hc.symm⟩, ?_⟩
        (refine Weak.renS [] hfx rfl ?_ ?_ rfl <;> (simp only [go_sem, reduceIte, exists_eq_left', exists_eq_left, Blk.mk.injEq] <;> (try and_intros) <;> first | rfl | omega))
theorem lastB_call (l : List UInt8) (hl : l.length ≤ 1000000) : SCall Try.prog 15 [.v (.string ⟨l.toArray⟩), .v (.int .u8 32)] (.v (.int .i64 ((sc l l.length : Int) - 1))) [.v (.string ⟨l.toArray⟩), .v (.int .u8 32)] := by
  have hlb := lastS_call l hl
  refine SCall.of_body' (TT := TT) (fun _ => false) [false, false] ttok Try.func15 rfl (Nat.le_of_ble_eq_true rfl) rfl fun fx hfx => WK.top ?_
  simp only [impl, imp, argT, List.append_nil, List.map_nil, List.nil_append, show Try.f15.ntmps = 8 from rfl, Nat.zero_add, Nat.reduceAdd]
  repeat' (first | refine WK.seq ?_ | refine WK.reg ?_ | refine IL.nil ?_ | (with_reducible refine IL.wr ?_ ?_; focus exact cW) | refine IL.sg ttok ?_ | refine IL.cS ttok ent18 [.bor, .bor] true ?_ (hS := by exact hlb))
  all_goals try ((first | refine WK.ret ⟨.inr rfl, ?_⟩ | refine ⟨.inl rfl, ?_⟩ | refine ⟨.inl trivial, ?_⟩); refine Fin.o ?_ ?_ (h1 := by first | rfl | (simp only [go_sem, show Try.f15.results.toList = [.tmp 4] from rfl, reduceIte] <;> rfl)); rotate_left 1; (focus (first | rfl | skip)); all_goals try with_reducible rfl)
  all_goals skip
theorem lcut_call (l : List UInt8) (w : Nat) (hl : l.length ≤ 1000000) (hw : (w : Int) ≤ 9223372036854775807) : SCall Try.prog 9 [.v (.string ⟨l.toArray⟩), .v (.int .i64 w)] (.v (.int .i64 (cutN l w))) [.v (.string ⟨l.toArray⟩), .v (.int .i64 w)] := by
  unfold cutN
  by_cases h : l.length ≤ w
  · rw [if_pos h]
    refine SCall.of_body' (TT := TT) (fun _ => false) [false, false] ttok Try.func9 rfl (Nat.le_of_ble_eq_true rfl) rfl fun fx hfx => WK.top ?_
    simp only [impl, imp, argT, List.append_nil, List.map_nil, List.nil_append, show Try.f9.ntmps = 21 from rfl, Nat.zero_add, Nat.reduceAdd]
    repeat' (first | refine WK.seq ?_ | refine WK.reg ?_ | refine IL.nil ?_ | refine WK.skip ?_ | (with_reducible refine IL.wr ?_ ?_; focus exact cW) | refine IL.sg ttok ?_ | refine IL.cS ttok ent15 [.bor, .bor] true ?_ (hS := by exact hlb) | (refine WK.cn (fun h => ?_) (fun h => ?_); all_goals first | (simp only [reduceCtorEq] at h; done) | (simp only [hsA, hsD, hsE, ne_eq] at h; first | done | (exfalso; omega; done) | skip) | skip))
    all_goals try ((first | refine WK.ret ⟨.inr rfl, ?_⟩ | refine ⟨.inl rfl, ?_⟩ | refine ⟨.inl trivial, ?_⟩); refine Fin.o ?_ ?_ (h1 := by first | rfl | (simp only [go_sem, show Try.f9.results.toList = [.tmp 4] from rfl, reduceIte] <;> rfl)); rotate_left 1; (focus (first | rfl | skip)); all_goals try with_reducible rfl)
    all_goals skip
  · rw [if_neg h]
    have hlb := lastB_call (l.take w) (by rw [List.length_take]; omega)
    have ht : (l.drop 0).take (w - 0) = l.take w := by simp
    have hlt : (l.take w).length = w := by rw [List.length_take]; omega
    rw [hlt, sc_take l w w (Nat.le_refl _)] at hlb
    have hsl := sc_le l w
    by_cases hz : sc l w = 0
    · rw [if_pos hz]
      rw [hz] at hlb
      refine SCall.of_body' (TT := TT) (fun _ => false) [false, false] ttok Try.func9 rfl (Nat.le_of_ble_eq_true rfl) rfl fun fx hfx => WK.top ?_
      simp only [impl, imp, argT, List.append_nil, List.map_nil, List.nil_append, show Try.f9.ntmps = 21 from rfl, Nat.zero_add, Nat.reduceAdd]
      have FX := ht
      repeat' (first | refine WK.seq ?_ | refine WK.reg ?_ | refine IL.nil ?_ | refine WK.skip ?_ | (with_reducible refine IL.wr ?_ ?_; focus exact cW) | refine IL.sgF ttok ?_ | refine IL.cSF ttok ent15 [.bor, .bor] true ?_ (hS := by exact hlb) | (refine WK.cn (fun h => ?_) (fun h => ?_); all_goals first | (simp only [reduceCtorEq] at h; done) | (simp only [hsA, hsD, hsE, ne_eq] at h; first | done | (exfalso; omega; done) | skip) | skip))
      all_goals try ((first | refine WK.ret ⟨.inr rfl, ?_⟩ | refine ⟨.inl rfl, ?_⟩ | refine ⟨.inl trivial, ?_⟩); refine Fin.o ?_ ?_ (h1 := by first | rfl | (simp only [go_sem, show Try.f9.results.toList = [.tmp 4] from rfl, reduceIte] <;> rfl)); rotate_left 1; (focus (first | rfl | skip)); all_goals try with_reducible rfl)
      all_goals skip
    · rw [if_neg hz]
      generalize sc l w = r at *
      have hr : IntKind.i64.wrap ((r : Int) - 1 + 1) = (r : Int) := by rw [wrap_i64 (by omega) (by omega)]; omega
      refine SCall.of_body' (TT := TT) (fun _ => false) [false, false] ttok Try.func9 rfl (Nat.le_of_ble_eq_true rfl) rfl fun fx hfx => WK.top ?_
      simp only [impl, imp, argT, List.append_nil, List.map_nil, List.nil_append, show Try.f9.ntmps = 21 from rfl, Nat.zero_add, Nat.reduceAdd]
      have FX := And.intro ht hr
      repeat' (first | refine WK.seq ?_ | refine WK.reg ?_ | refine IL.nil ?_ | refine WK.skip ?_ | (with_reducible refine IL.wr ?_ ?_; focus exact cW) | refine IL.sgF ttok ?_ | refine IL.cSF ttok ent15 [.bor, .bor] true ?_ (hS := by exact hlb) | (refine WK.cn (fun h => ?_) (fun h => ?_); all_goals first | (simp only [reduceCtorEq] at h; done) | (simp only [hsA, hsD, hsE, ne_eq] at h; first | done | (exfalso; omega; done) | skip) | skip))
      all_goals try ((first | refine WK.ret ⟨.inr rfl, ?_⟩ | refine ⟨.inl rfl, ?_⟩ | refine ⟨.inl trivial, ?_⟩); refine Fin.o ?_ ?_ (h1 := by first | rfl | (simp only [go_sem, show Try.f9.results.toList = [.tmp 4] from rfl, reduceIte] <;> rfl)); rotate_left 1; (focus (first | rfl | skip)); all_goals try with_reducible rfl)
      all_goals skip
theorem idx_call (t : List UInt8) : SCall Try.prog 17 [.v (.string ⟨t.toArray⟩), .v (.string ⟨#[10]⟩)] (.v (.int .i64 (Lib.indexByte t 10))) [.v (.string ⟨t.toArray⟩), .v (.string ⟨#[10]⟩)] :=
  (SCallG.of_kit (G := []) (P := Try.prog) (f := 17) (xs := [.string ⟨t.toArray⟩, .string ⟨#[10]⟩]) (BRv.v (.int .i64 (Lib.indexByte t 10))) fun w R hG => by
    refine (Any.stringslite_Index_one Try.lays219 ⟨t.toArray⟩ 10 w).mono ?_
    rintro e w' ⟨rfl, rfl⟩
    exact ⟨by simp, Fr.refl _ _⟩).toS
end Go.Proofs.Ytaaopphbgbbedaa
/- strings.Cut at a newline. -/
namespace Go.Proofs.Ytaaopphbgbbedaa
open Go Go.Lift
set_option maxHeartbeats 4000000
set_option linter.unusedSimpArgs false
set_option linter.unusedVariables false
attribute [local irreducible] WK IL IP IG IW DW

theorem scut_none (t : List UInt8) (h : Lib.indexByte t 10 = -1) : SCall Try.prog 14 [.v (.string ⟨t.toArray⟩), .v (.string ⟨#[10]⟩)] (.tup [.v (.string ⟨t.toArray⟩), .v (.string ⟨#[]⟩), .v (.bool false)]) [.v (.string ⟨t.toArray⟩), .v (.string ⟨#[10]⟩)] := by
  have hix := idx_call t
  rw [h] at hix
  refine SCall.of_body' (TT := TT) (fun _ => false) [false, false] ttok Try.func14 rfl (Nat.le_of_ble_eq_true rfl) rfl fun fx hfx => WK.top ?_
  simp only [impl, imp, argT, List.append_nil, List.map_nil, List.nil_append, show Try.f14.ntmps = 23 from rfl, Nat.zero_add, Nat.reduceAdd]
  repeat' (first | refine WK.seq ?_ | refine WK.reg ?_ | refine IL.nil ?_ | refine WK.skip ?_ | refine WK.drawnS (id := 3) mixed [] [] [] [] (by decide +kernel) ?_ | refine DW.nil ?_ | (with_reducible refine IL.wr ?_ ?_; focus exact cW) | (with_reducible refine DW.wr ?_ ?_; focus exact cW) | refine IL.sg ttok ?_ | refine DW.re ttok ?_ | refine DW.rm ttok ?_ | refine IL.cS ttok ent17 [.bor, .bor] true ?_ (hS := by exact hix) | (refine WK.cn (fun h => ?_) (fun h => ?_); all_goals first | (simp only [reduceCtorEq] at h; done) | (simp only [hsA, hsD, hsE, ne_eq] at h; first | done | (exfalso; omega; done) | skip) | skip))
  all_goals try ((first | refine WK.ret ⟨.inr rfl, ?_⟩ | refine ⟨.inl rfl, ?_⟩ | refine ⟨.inl trivial, ?_⟩); refine Fin.o ?_ ?_ (h1 := by first | rfl | (simp only [go_sem, show Try.f14.results.toList = [.tmp 4, .tmp 5, .tmp 6] from rfl, reduceIte] <;> rfl)); rotate_left 1; (focus (first | rfl | skip)); all_goals try with_reducible rfl)
  all_goals skip
theorem scut_some (t p q : List UInt8) (ht : t = p ++ 10 :: q) (hl : t.length ≤ 1000000) (h : Lib.indexByte t 10 = p.length) : SCall Try.prog 14 [.v (.string ⟨t.toArray⟩), .v (.string ⟨#[10]⟩)] (.tup [.v (.string ⟨p.toArray⟩), .v (.string ⟨q.toArray⟩), .v (.bool true)]) [.v (.string ⟨t.toArray⟩), .v (.string ⟨#[10]⟩)] := by
  have hix := idx_call t
  rw [h] at hix
  have h1 : t.take p.length = p := by rw [ht]; simp
  have h2 : (t.drop (p.length + 1)).take (t.length - (p.length + 1)) = q := by
    have : t.drop (p.length + 1) = q := by rw [ht, List.drop_append]; simp
    rw [this, ht]; exact List.take_of_length_le (by simp; omega)
  have hlt : p.length + 1 ≤ t.length := by rw [ht]; simp
  have hz : (ByteArray.mk #[(10 : UInt8)]).size = 1 := rfl
  generalize p.length = n at *
  refine SCall.of_body' (TT := TT) (fun _ => false) [false, false] ttok Try.func14 rfl (Nat.le_of_ble_eq_true rfl) rfl fun fx hfx => WK.top ?_
  simp only [impl, imp, argT, List.append_nil, List.map_nil, List.nil_append, show Try.f14.ntmps = 23 from rfl, Nat.zero_add, Nat.reduceAdd]
  have FX := And.intro h1 (And.intro h2 hz)
  repeat' (first | refine WK.seq ?_ | refine WK.reg ?_ | refine IL.nil ?_ | refine WK.skip ?_ | refine WK.drawnS (id := 3) mixed [] [] [] [] (by decide +kernel) ?_ | refine DW.nil ?_ | (with_reducible refine IL.wr ?_ ?_; focus exact cW) | (with_reducible refine DW.wr ?_ ?_; focus exact cW) | refine IL.sgF ttok ?_ | refine DW.reF ttok ?_ | refine DW.rmF ttok ?_ | refine IL.cSF ttok ent17 [.bor, .bor] true ?_ (hS := by exact hix) | (refine WK.cn (fun h => ?_) (fun h => ?_); all_goals first | (simp only [reduceCtorEq] at h; done) | (simp only [hsA, hsD, hsE, ne_eq] at h; first | done | (exfalso; omega; done) | skip) | skip))
  all_goals try ((first | refine WK.ret ⟨.inr rfl, ?_⟩ | refine ⟨.inl rfl, ?_⟩ | refine ⟨.inl trivial, ?_⟩); refine Fin.o ?_ ?_ (h1 := by first | rfl | (simp only [go_sem, show Try.f14.results.toList = [.tmp 4, .tmp 5, .tmp 6] from rfl, reduceIte] <;> rfl)); rotate_left 1; (focus (first | rfl | skip)); all_goals try with_reducible rfl)
  all_goals (rw [show ((n : Int) + ((1 : Nat) : Int)).toNat = n + 1 from by omega, h2])
theorem cut_none (t : List UInt8) (h : Lib.indexByte t 10 = -1) : SCall Try.prog 8 [.v (.string ⟨t.toArray⟩), .v (.string ⟨#[10]⟩)] (.tup [.v (.string ⟨t.toArray⟩), .v (.string ⟨#[]⟩), .v (.bool false)]) [.v (.string ⟨t.toArray⟩), .v (.string ⟨#[10]⟩)] := by
  have hct := scut_none t h
  refine SCall.of_body' (TT := TT) (fun _ => false) [false, false] ttok Try.func8 rfl (Nat.le_of_ble_eq_true rfl) rfl fun fx hfx => WK.top ?_
  simp only [impl, imp, argT, List.append_nil, List.map_nil, List.nil_append, show Try.f8.ntmps = 13 from rfl, Nat.zero_add, Nat.reduceAdd]
  repeat' (first | refine WK.seq ?_ | refine WK.reg ?_ | refine IL.nil ?_ | (with_reducible refine IL.wr ?_ ?_; focus exact cW) | refine IL.sg ttok ?_ | refine IL.cS ttok ent14 [.bor, .bor] true ?_ (hS := by exact hct))
  all_goals try ((first | refine WK.ret ⟨.inr rfl, ?_⟩ | refine ⟨.inl rfl, ?_⟩ | refine ⟨.inl trivial, ?_⟩); refine Fin.o ?_ ?_ (h1 := by first | rfl | (simp only [go_sem, show Try.f8.results.toList = [.tmp 4, .tmp 5, .tmp 6] from rfl, reduceIte] <;> rfl)); rotate_left 1; (focus (first | rfl | skip)); all_goals try with_reducible rfl)
  all_goals skip
theorem cut_some (t p q : List UInt8) (ht : t = p ++ 10 :: q) (hl : t.length ≤ 1000000) (h : Lib.indexByte t 10 = p.length) : SCall Try.prog 8 [.v (.string ⟨t.toArray⟩), .v (.string ⟨#[10]⟩)] (.tup [.v (.string ⟨p.toArray⟩), .v (.string ⟨q.toArray⟩), .v (.bool true)]) [.v (.string ⟨t.toArray⟩), .v (.string ⟨#[10]⟩)] := by
  have hct := scut_some t p q ht hl h
  refine SCall.of_body' (TT := TT) (fun _ => false) [false, false] ttok Try.func8 rfl (Nat.le_of_ble_eq_true rfl) rfl fun fx hfx => WK.top ?_
  simp only [impl, imp, argT, List.append_nil, List.map_nil, List.nil_append, show Try.f8.ntmps = 13 from rfl, Nat.zero_add, Nat.reduceAdd]
  repeat' (first | refine WK.seq ?_ | refine WK.reg ?_ | refine IL.nil ?_ | (with_reducible refine IL.wr ?_ ?_; focus exact cW) | refine IL.sg ttok ?_ | refine IL.cS ttok ent14 [.bor, .bor] true ?_ (hS := by exact hct))
  all_goals try ((first | refine WK.ret ⟨.inr rfl, ?_⟩ | refine ⟨.inl rfl, ?_⟩ | refine ⟨.inl trivial, ?_⟩); refine Fin.o ?_ ?_ (h1 := by first | rfl | (simp only [go_sem, show Try.f8.results.toList = [.tmp 4, .tmp 5, .tmp 6] from rfl, reduceIte] <;> rfl)); rotate_left 1; (focus (first | rfl | skip)); all_goals try with_reducible rfl)
  all_goals skip
end Go.Proofs.Ytaaopphbgbbedaa
/- layout.Rows. -/
namespace Go.Proofs.Ytaaopphbgbbedaa
open Go Go.Lift
set_option maxHeartbeats 4000000
set_option linter.unusedSimpArgs false
set_option linter.unusedVariables false
attribute [local irreducible] WK IL IP IG IW DW

def rwC (r : Rw) : List IV := [.v (.int .i64 r.1), .v (.int .i64 r.2.1), .v (.bool r.2.2)]
instance : Cells rwC 3 := ⟨fun _ => rfl, fun _ => rfl, fun _ => rfl⟩
theorem rwC_length (r : Rw) : (rwC r).length = 3 := rfl
theorem rows_zero (s : List UInt8) (w : Int) (hw : w < 1) : SCall Try.prog 5 [.v (.string ⟨s.toArray⟩), .v (.int .i64 w)] (.tup [.own 32 0 true [], .v (.int .i64 10)]) [.v (.string ⟨s.toArray⟩), .v (.int .i64 w)] := by
  refine SCall.of_body' (TT := TT) (fun _ => false) [false, false] ttok Try.func5 rfl (Nat.le_of_ble_eq_true rfl) rfl fun fx hfx => WK.top ?_
  simp only [impl, imp, argT, List.append_nil, List.map_nil, List.nil_append, show Try.f5.ntmps = 54 from rfl, Nat.zero_add, Nat.reduceAdd]
  repeat' (first | refine WK.seq ?_ | refine WK.reg ?_ | refine IL.nil ?_ | refine WK.skip ?_ | refine WK.drawnS (id := 9) mixed [] [] [] [] (by decide +kernel) ?_ | refine DW.nil ?_ | (with_reducible refine IL.wr ?_ ?_; focus exact cW) | (with_reducible refine DW.wr ?_ ?_; focus exact cW) | refine IL.sg ttok ?_ | refine IL.nn ?_ | refine DW.re ttok ?_ | refine DW.rm ttok ?_ | refine IL.cS ttok ent8 [.bor, .bor] true ?_ (hS := by exact hct) | refine IL.cS ttok ent9 [.bor, .bor] true ?_ (hS := by exact hlc) | ((first | ((first | refine IL.ag (fun h => ?_) (fun h => ?_) | refine IL.ap (fun h => ?_) (fun h => ?_)); (fail_if_success (focus (simp only [reduceCtorEq] at h)))) | refine WK.cn (fun h => ?_) (fun h => ?_)); all_goals first | (simp only [reduceCtorEq] at h; done) | (simp only [hsA, hsD, hsE, ne_eq] at h; first | done | (exfalso; omega; done) | skip) | skip))
  refine WK.gotoL2 (α := Nat) (β := Nat) 0 1 rfl rfl (fun _ => 0) (fun _ => 0) (fun _ => False) (fun _ => False) (fun x => ⟨0, [], []⟩) (fun x => ⟨0, [], []⟩) (fun _ h => h.elim) (fun _ h => h.elim) 0 ?_
  intro again
  repeat' (first | refine WK.seq ?_ | refine WK.reg ?_ | refine IL.nil ?_ | refine WK.skip ?_ | refine WK.drawnS (id := 9) mixed [] [] [] [] (by decide +kernel) ?_ | refine DW.nil ?_ | (with_reducible refine IL.wr ?_ ?_; focus exact cW) | (with_reducible refine DW.wr ?_ ?_; focus exact cW) | refine IL.sg ttok ?_ | refine IL.nn ?_ | refine DW.re ttok ?_ | refine DW.rm ttok ?_ | refine IL.cS ttok ent8 [.bor, .bor] true ?_ (hS := by exact hct) | refine IL.cS ttok ent9 [.bor, .bor] true ?_ (hS := by exact hlc) | ((first | ((first | refine IL.ag (fun h => ?_) (fun h => ?_) | refine IL.ap (fun h => ?_) (fun h => ?_)); (fail_if_success (focus (simp only [reduceCtorEq] at h)))) | refine WK.cn (fun h => ?_) (fun h => ?_)); all_goals first | (simp only [reduceCtorEq] at h; done) | (simp only [hsA, hsD, hsE, ne_eq] at h; first | done | (exfalso; omega; done) | skip) | skip))
  all_goals try ((first | refine WK.ret ⟨.inr rfl, ?_⟩ | refine ⟨.inl rfl, ?_⟩ | refine ⟨.inl trivial, ?_⟩); refine Fin.o ?_ ?_ (h1 := by first | rfl | (simp only [go_sem, show Try.f5.results.toList = [.tmp 4, .tmp 5] from rfl, reduceIte] <;> rfl)); rotate_left 1; (focus (first | rfl | skip)); all_goals try with_reducible rfl)
  all_goals skip
theorem crows_call (s : List UInt8) (w : Nat) (hw : 1 ≤ w) (hw2 : (w : Int) ≤ 9223372036854775807) (hs : s.length ≤ 1000000) :
    SCall Try.prog 5 [.v (.string ⟨s.toArray⟩), .v (.int .i64 w)] (.tup [.own 32 (rowsT w s).length true (encs rwC (rowsT w s)), .v (.int .i64 0)]) [.v (.string ⟨s.toArray⟩), .v (.int .i64 w)] := by
  generalize hR : rowsT w s = R
  unfold rowsT at hR
  refine SCall.of_body' (TT := TT) (fun _ => false) [false, false] ttok Try.func5 rfl (Nat.le_of_ble_eq_true rfl) rfl fun fx hfx => WK.top ?_
  simp only [impl, imp, argT, List.append_nil, List.map_nil, List.nil_append, show Try.f5.ntmps = 54 from rfl, Nat.zero_add, Nat.reduceAdd]
  repeat' (first | refine WK.seq ?_ | refine WK.reg ?_ | refine IL.nil ?_ | refine WK.skip ?_ | refine WK.drawnS (id := 9) mixed [] [] [] [] (by decide +kernel) ?_ | refine DW.nil ?_ | (with_reducible refine IL.wr ?_ ?_; focus exact cW) | (with_reducible refine DW.wr ?_ ?_; focus exact cW) | refine IL.sg ttok ?_ | refine IL.nn ?_ | refine DW.re ttok ?_ | refine DW.rm ttok ?_ | refine IL.cS ttok ent8 [.bor, .bor] true ?_ (hS := by exact hct) | refine IL.cS ttok ent9 [.bor, .bor] true ?_ (hS := by exact hlc) | ((first | ((first | refine IL.ag (fun h => ?_) (fun h => ?_) | refine IL.ap (fun h => ?_) (fun h => ?_)); (fail_if_success (focus (simp only [reduceCtorEq] at h)))) | refine WK.cn (fun h => ?_) (fun h => ?_)); all_goals first | (simp only [reduceCtorEq] at h; done) | (simp only [hsA, hsD, hsE, ne_eq] at h; first | done | (exfalso; omega; done) | skip) | skip))
  refine WK.gotoL2 (α := Nat × List Rw) (β := Nat × List UInt8 × Bool × List Rw) 0 1 rfl rfl (fun x => 2 * (s.length + 1 - x.1) + 1) (fun y => 2 * (s.length + 1 - y.1))
    (fun x => x.1 ≤ s.length ∧ x.2.length ≤ x.1 ∧ x.2 ++ rowsA w x.1 (linesOf (s.drop x.1)) = R)
    (fun y => y.1 + y.2.1.length + (if y.2.2.1 then 1 else 0) ≤ s.length ∧ y.2.2.2.length ≤ y.1 ∧ y.2.2.2 ++ (rowsL w y.2.2.1 y.2.1.length y.1 y.2.1 ++ (if y.2.2.1 then rowsA w (y.1 + y.2.1.length + 1) (linesOf (s.drop (y.1 + y.2.1.length + 1))) else [])) = R)
    (fun x => ⟨54, [(0, .v (.string ⟨s.toArray⟩)), (1, .v (.int .i64 w)), (6, .sl 0 0 0 x.2.length), (7, .v (.int .i64 x.1))], [some ⟨true, 32, x.2.length, true, encs rwC x.2, 0, false⟩]⟩)
    (fun y => ⟨54, [(0, .v (.string ⟨s.toArray⟩)), (1, .v (.int .i64 w)), (6, .sl 0 0 0 y.2.2.2.length), (7, .v (.int .i64 y.1)), (8, .v (.string ⟨y.2.1.toArray⟩)), (10, .v (.bool y.2.2.1))], [some ⟨true, 32, y.2.2.2.length, true, encs rwC y.2.2.2, 0, false⟩]⟩)
    ?_ ?_ (0, []) ?_
  · rintro ⟨a, l, e, out⟩ ⟨h1, h2, h3⟩
    simp only at h1 h2 h3 ⊢
    have hlc := lcut_call l w (by split at h1 <;> omega) hw2
    have hcl := cutN_le l w
    have hle : l.length ≤ s.length := by omega
    have hal : a + l.length ≤ s.length := by omega
    have htq : (encs rwC out).take (out.length * 3) = encs rwC out := encs_take_all rwC_length out
    by_cases hl : l.length ≤ w
    · have hn := hcl.2.2.2 hl
      rw [hn] at hlc
      rw [rowsL_one w e _ a l hl] at h3
      have hsn := encs_snoc (f := rwC) out (a, a + l.length, e)
      simp only [rwC, Int.natCast_add] at hsn
      have hz : (l.drop l.length) = [] := by simp
      cases e with
      | false =>
        simp only [Bool.false_eq_true, if_false, List.append_nil] at h3 h1
        have hRl := congrArg List.length h3
        rw [List.length_append, List.length_cons, List.length_nil] at hRl
        have hRe := congrArg (encs rwC) h3
        rw [← hsn] at hRe
        have FX := htq
        repeat' (first | refine WK.seq ?_ | refine WK.reg ?_ | refine IL.nil ?_ | refine WK.skip ?_ | refine WK.drawnS (id := 9) mixed [] [] [] [] (by decide +kernel) ?_ | refine DW.nil ?_ | (with_reducible refine IL.wr ?_ ?_; focus exact cW) | (with_reducible refine DW.wr ?_ ?_; focus exact cW) | refine IL.sgF ttok ?_ | refine IL.nn ?_ | refine DW.reF ttok ?_ | refine DW.rmF ttok ?_ | refine IL.cSF ttok ent8 [.bor, .bor] true ?_ (hS := by exact hct) | refine IL.cSF ttok ent9 [.bor, .bor] true ?_ (hS := by exact hlc) | ((first | ((first | refine IL.ag (fun h => ?_) (fun h => ?_) | refine IL.ap (fun h => ?_) (fun h => ?_)); (fail_if_success (focus (simp only [reduceCtorEq] at h)))) | refine WK.cn (fun h => ?_) (fun h => ?_)); all_goals first | (simp only [reduceCtorEq] at h; done) | (simp only [hsA, hsD, hsE, ne_eq] at h; first | done | (exfalso; omega; done) | skip) | skip))
        all_goals try ((first | refine WK.ret ⟨.inr rfl, ?_⟩ | refine ⟨.inl rfl, ?_⟩ | refine ⟨.inl trivial, ?_⟩); refine Fin.o ?_ ?_ (h1 := by first | rfl | (simp only [go_sem, show Try.f5.results.toList = [.tmp 4, .tmp 5] from rfl, reduceIte] <;> rfl)); rotate_left 1; (focus (first | rfl | skip)); all_goals try with_reducible rfl)
        all_goals (rw [hRe, show out.length + 1 = R.length from hRl])
      | true =>
        simp only [if_true] at h3 h1
        have FX := htq
        repeat' (first | refine WK.seq ?_ | refine WK.reg ?_ | refine IL.nil ?_ | refine WK.skip ?_ | refine WK.drawnS (id := 9) mixed [] [] [] [] (by decide +kernel) ?_ | refine DW.nil ?_ | (with_reducible refine IL.wr ?_ ?_; focus exact cW) | (with_reducible refine DW.wr ?_ ?_; focus exact cW) | refine IL.sgF ttok ?_ | refine IL.nn ?_ | refine DW.reF ttok ?_ | refine DW.rmF ttok ?_ | refine IL.cSF ttok ent8 [.bor, .bor] true ?_ (hS := by exact hct) | refine IL.cSF ttok ent9 [.bor, .bor] true ?_ (hS := by exact hlc) | ((first | ((first | refine IL.ag (fun h => ?_) (fun h => ?_) | refine IL.ap (fun h => ?_) (fun h => ?_)); (fail_if_success (focus (simp only [reduceCtorEq] at h)))) | refine WK.cn (fun h => ?_) (fun h => ?_)); all_goals first | (simp only [reduceCtorEq] at h; done) | (simp only [hsA, hsD, hsE, ne_eq] at h; first | done | (exfalso; omega; done) | skip) | skip))
        refine WK.goto (.inl ⟨rfl, (a + l.length + 1, out ++ [(a, a + l.length, true)]), by simp only; omega, ⟨by simp only; omega, by simp only [List.length_append, List.length_cons, List.length_nil]; omega, by simp only [List.append_assoc]; exact h3⟩, ?_⟩)
        (refine Weak.renS [0] hfx rfl ?_ ?_ rfl <;> (simp only [go_sem, reduceIte, exists_eq_left', exists_eq_left, Blk.mk.injEq, htq, hsn, List.length_append, List.length_cons, List.length_nil] <;> (try and_intros) <;> first | rfl | omega))
    · have hn : ¬ cutN l w = l.length := fun h => hl (hcl.2.2.1 h)
      have hp := cutN_pos l w hw hl
      rw [rowsL_more w e hw a l hl] at h3
      have hsn := encs_snoc (f := rwC) out (a, a + cutN l w, false)
      simp only [rwC, Int.natCast_add] at hsn
      generalize cutN l w = n at *
      have hd : (l.drop n).length = l.length - n := List.length_drop
      have hx : a + n + (l.drop n).length = a + l.length := by rw [hd]; omega
      have hnb : n ≤ l.length := hcl.1
      have hdl : (l.drop n).take (l.length - n) = l.drop n := List.take_of_length_le (by simp)
      have hon : out.length + 1 ≤ a + n := by omega
      have hms : 2 * (s.length + 1 - (a + n)) < 2 * (s.length + 1 - a) := by omega
      have FX := htq
      repeat' (first | refine WK.seq ?_ | refine WK.reg ?_ | refine IL.nil ?_ | refine WK.skip ?_ | refine WK.drawnS (id := 9) mixed [] [] [] [] (by decide +kernel) ?_ | refine DW.nil ?_ | (with_reducible refine IL.wr ?_ ?_; focus exact cW) | (with_reducible refine DW.wr ?_ ?_; focus exact cW) | refine IL.sgF ttok ?_ | refine IL.nn ?_ | refine DW.reF ttok ?_ | refine DW.rmF ttok ?_ | refine IL.cSF ttok ent8 [.bor, .bor] true ?_ (hS := by exact hct) | refine IL.cSF ttok ent9 [.bor, .bor] true ?_ (hS := by exact hlc) | ((first | ((first | refine IL.ag (fun h => ?_) (fun h => ?_) | refine IL.ap (fun h => ?_) (fun h => ?_)); (fail_if_success (focus (simp only [reduceCtorEq] at h)))) | refine WK.cn (fun h => ?_) (fun h => ?_)); all_goals first | (simp only [reduceCtorEq] at h; done) | (simp only [hsA, hsD, hsE, ne_eq] at h; first | done | (exfalso; omega; done) | skip) | skip))
      refine WK.goto (.inr ⟨rfl, (a + n, l.drop n, e, out ++ [(a, a + n, false)]), hms, ⟨by simp only [hx]; exact h1, by simp only [List.length_append, List.length_cons, List.length_nil]; exact hon, by simp only [hx, List.append_assoc, List.cons_append, List.nil_append]; exact h3⟩, ?_⟩)
      (refine Weak.renS [0] hfx rfl ?_ ?_ rfl <;> (simp only [go_sem, reduceIte, exists_eq_left', exists_eq_left, Blk.mk.injEq, htq, hsn, hdl, List.length_append, List.length_cons, List.length_nil] <;> (try and_intros) <;> first | rfl | omega))
  · rintro ⟨a, out⟩ ⟨h1, h2, h3⟩ again
    simp only at h1 h2 h3 ⊢
    have hdr : (s.drop a).take (s.length - a) = s.drop a := List.take_of_length_le (by simp)
    rcases cut_nl (s.drop a) with ⟨hi, hno⟩ | ⟨p, q, ht, hno, hi⟩
    · have hct := cut_none (s.drop a) hi
      rw [linesOf_no _ hno] at h3
      have FX := hdr
      repeat' (first | refine WK.seq ?_ | refine WK.reg ?_ | refine IL.nil ?_ | refine WK.skip ?_ | refine WK.drawnS (id := 9) mixed [] [] [] [] (by decide +kernel) ?_ | refine DW.nil ?_ | (with_reducible refine IL.wr ?_ ?_; focus exact cW) | (with_reducible refine DW.wr ?_ ?_; focus exact cW) | refine IL.sgF ttok ?_ | refine IL.nn ?_ | refine DW.reF ttok ?_ | refine DW.rmF ttok ?_ | refine IL.cSF ttok ent8 [.bor, .bor] true ?_ (hS := by exact hct) | refine IL.cSF ttok ent9 [.bor, .bor] true ?_ (hS := by exact hlc) | ((first | ((first | refine IL.ag (fun h => ?_) (fun h => ?_) | refine IL.ap (fun h => ?_) (fun h => ?_)); (fail_if_success (focus (simp only [reduceCtorEq] at h)))) | refine WK.cn (fun h => ?_) (fun h => ?_)); all_goals first | (simp only [reduceCtorEq] at h; done) | (simp only [hsA, hsD, hsE, ne_eq] at h; first | done | (exfalso; omega; done) | skip) | skip))
      refine WK.label ?_
      refine again _ (a, s.drop a, false, out) (by simp only; omega) ⟨by simp only [List.length_drop, Bool.false_eq_true, if_false]; omega, h2, by simp only [Bool.false_eq_true, if_false, List.append_nil]; simpa [rowsA] using h3⟩ ?_
      (refine Weak.renS [0] hfx rfl ?_ ?_ rfl <;> (simp only [go_sem, reduceIte, exists_eq_left', exists_eq_left, Blk.mk.injEq] <;> (try and_intros) <;> first | rfl | omega))
    · have hct := cut_some (s.drop a) p q ht (by rw [List.length_drop]; omega) hi
      have hlq : (s.drop a).length = p.length + (q.length + 1) := by rw [ht]; simp
      rw [List.length_drop] at hlq
      have hdq : s.drop (a + p.length + 1) = q := by
        rw [show a + p.length + 1 = a + (p.length + 1) by omega, ← List.drop_drop, ht, List.drop_append]; simp
      rw [ht, linesOf_cut p q hno] at h3
      have hqe : (linesOf q).isEmpty = false := by
        rw [linesOf_eta]; rfl
      have FX := hdr
      repeat' (first | refine WK.seq ?_ | refine WK.reg ?_ | refine IL.nil ?_ | refine WK.skip ?_ | refine WK.drawnS (id := 9) mixed [] [] [] [] (by decide +kernel) ?_ | refine DW.nil ?_ | (with_reducible refine IL.wr ?_ ?_; focus exact cW) | (with_reducible refine DW.wr ?_ ?_; focus exact cW) | refine IL.sgF ttok ?_ | refine IL.nn ?_ | refine DW.reF ttok ?_ | refine DW.rmF ttok ?_ | refine IL.cSF ttok ent8 [.bor, .bor] true ?_ (hS := by exact hct) | refine IL.cSF ttok ent9 [.bor, .bor] true ?_ (hS := by exact hlc) | ((first | ((first | refine IL.ag (fun h => ?_) (fun h => ?_) | refine IL.ap (fun h => ?_) (fun h => ?_)); (fail_if_success (focus (simp only [reduceCtorEq] at h)))) | refine WK.cn (fun h => ?_) (fun h => ?_)); all_goals first | (simp only [reduceCtorEq] at h; done) | (simp only [hsA, hsD, hsE, ne_eq] at h; first | done | (exfalso; omega; done) | skip) | skip))
      refine WK.label ?_
      refine again _ (a, p, true, out) (by simp only; omega) ⟨by simp only [if_true]; omega, h2, by simp only [if_true]; rw [hdq]; simpa [rowsA, hqe] using h3⟩ ?_
      (refine Weak.renS [0] hfx rfl ?_ ?_ rfl <;> (simp only [go_sem, reduceIte, exists_eq_left', exists_eq_left, Blk.mk.injEq] <;> (try and_intros) <;> first | rfl | omega))
  · intro again
    repeat' (first | refine WK.seq ?_ | refine WK.reg ?_ | refine IL.nil ?_ | refine WK.skip ?_ | refine WK.drawnS (id := 9) mixed [] [] [] [] (by decide +kernel) ?_ | refine DW.nil ?_ | (with_reducible refine IL.wr ?_ ?_; focus exact cW) | (with_reducible refine DW.wr ?_ ?_; focus exact cW) | refine IL.sg ttok ?_ | refine IL.nn ?_ | refine DW.re ttok ?_ | refine DW.rm ttok ?_ | refine IL.cS ttok ent8 [.bor, .bor] true ?_ (hS := by exact hct) | refine IL.cS ttok ent9 [.bor, .bor] true ?_ (hS := by exact hlc) | ((first | ((first | refine IL.ag (fun h => ?_) (fun h => ?_) | refine IL.ap (fun h => ?_) (fun h => ?_)); (fail_if_success (focus (simp only [reduceCtorEq] at h)))) | refine WK.cn (fun h => ?_) (fun h => ?_)); all_goals first | (simp only [reduceCtorEq] at h; done) | (simp only [hsA, hsD, hsE, ne_eq] at h; first | done | (exfalso; omega; done) | skip) | skip))
    refine WK.label ?_
    refine again _ ⟨Nat.zero_le _, Nat.le_refl _, by simpa using hR⟩ ?_
    (refine Weak.renS [1] hfx rfl ?_ ?_ rfl <;> (simp only [go_sem, reduceIte, exists_eq_left', exists_eq_left, Blk.mk.injEq, encs_nil, List.length_nil] <;> (try and_intros) <;> first | rfl | omega))
end Go.Proofs.Ytaaopphbgbbedaa
/- the document's lines. -/
namespace Go.Proofs.Ytaaopphbgbbedaa
open Go Go.Lift
set_option maxHeartbeats 4000000
set_option linter.unusedSimpArgs false
set_option linter.unusedVariables false
attribute [local irreducible] WK IL IP IG IW DW

def strC (l : List UInt8) : List IV := [.v (.string ⟨l.toArray⟩)]
instance : Cells strC 1 := ⟨fun _ => rfl, fun _ => rfl, fun _ => rfl⟩
theorem strC_length (r : List UInt8) : (strC r).length = 1 := rfl
theorem lines_call (s : List UInt8) (hs : s.length ≤ 1000000) :
    SCall Try.prog 13 [.v (.string ⟨s.toArray⟩)] (.own 9 (linesOf s).length true (encs strC (linesOf s))) [.v (.string ⟨s.toArray⟩)] := by
  generalize hR : linesOf s = R
  refine SCall.of_body' (TT := TT) (fun _ => false) [false] ttok Try.func13 rfl (Nat.le_of_ble_eq_true rfl) rfl fun fx hfx => WK.top ?_
  simp only [impl, imp, argT, List.append_nil, List.map_nil, List.nil_append, show Try.f13.ntmps = 31 from rfl, Nat.zero_add, Nat.reduceAdd]
  repeat' (first | refine WK.seq ?_ | refine WK.reg ?_ | refine IL.nil ?_ | refine WK.skip ?_ | refine WK.block ?_ | refine WK.exit_here ?_ | refine WK.e1 ?_ | refine WK.e2 ?_ | (with_reducible refine IL.wr ?_ ?_; focus exact cW) | refine IL.sg ttok ?_ | (refine WK.cn (fun h => ?_) (fun h => ?_); all_goals first | (simp only [reduceCtorEq] at h; done) | (simp only [hsA, hsD, hsE, ne_eq] at h; first | done | (exfalso; omega; done) | skip) | skip))
  refine WK.whileS (α := Nat × Nat × List (List UInt8)) (fun x => s.length - x.1) (fun x => x.1 ≤ s.length ∧ x.2.1 ≤ x.1 ∧ x.2.2.length ≤ x.1 ∧ x.2.2 ++ ((s.drop x.2.1).take (x.1 - x.2.1) ++ (linesOf (s.drop x.1)).headD []) :: (linesOf (s.drop x.1)).tail = R)
    (fun x => ⟨31, [(0, .v (.string ⟨s.toArray⟩)), (3, .sl 0 0 0 x.2.2.length), (4, .v (.int .i64 x.2.1)), (5, .v (.int .i64 x.1))], [some ⟨true, 9, x.2.2.length, true, encs strC x.2.2, 0, false⟩]⟩) (0, 0, []) ⟨⟨Nat.zero_le _, Nat.le_refl _, Nat.le_refl _, ?_⟩, ?_⟩ ?_
  · simp only [List.drop_zero, Nat.sub_self, List.take_zero, List.nil_append]
    rw [← linesOf_eta]; exact hR
  · (refine Weak.renS [1] hfx rfl ?_ ?_ rfl <;> (simp only [go_sem, reduceIte, exists_eq_left', exists_eq_left, Blk.mk.injEq, encs_nil, List.length_nil] <;> (try and_intros) <;> first | rfl | omega))
  rintro ⟨i, f, out⟩ ⟨h1, h2, h3, h4⟩
  simp only at h1 h2 h3 h4 ⊢
  have htq : (encs strC out).take (out.length * 1) = encs strC out := encs_take_all strC_length out
  rw [Nat.mul_one] at htq
  by_cases hi : i < s.length
  · have hd : s.drop i = s[i] :: s.drop (i + 1) := List.drop_eq_getElem_cons hi
    have hg : s.getD i 0 = s[i] := by simp [List.getD_eq_getElem?_getD, List.getElem?_eq_getElem hi]
    have htk : (s.drop f).take (i + 1 - f) = (s.drop f).take (i - f) ++ [s[i]] := by
      rw [show i + 1 - f = (i - f) + 1 by omega, List.take_add_one, List.getElem?_drop, show f + (i - f) = i by omega, List.getElem?_eq_getElem hi]; rfl
    rw [hd] at h4
    by_cases hb : s[i] = 10
    · have hb2 : ((s.getD i 0).toNat : Int) = 10 := by rw [hg, hb]; rfl
      rw [linesOf, if_pos hb] at h4
      simp only [List.headD_cons, List.tail_cons, List.append_nil] at h4
      have hsn := encs_snoc (f := strC) out ((s.drop f).take (i - f))
      simp only [strC] at hsn
      have FX := htq
      repeat' (first | refine WK.seq ?_ | refine WK.reg ?_ | refine IL.nil ?_ | refine WK.skip ?_ | refine WK.block ?_ | refine WK.exit_here ?_ | refine WK.e1 ?_ | refine WK.e2 ?_ | (with_reducible refine IL.wr ?_ ?_; focus exact cW) | refine IL.sgF ttok ?_ | (refine WK.cn (fun h => ?_) (fun h => ?_); all_goals first | (simp only [reduceCtorEq] at h; done) | (simp only [hsA, hsD, hsE, ne_eq] at h; first | done | (exfalso; omega; done) | skip) | skip))
      all_goals try (exact absurd hb2 ‹_›)
      refine ⟨(i + 1, i + 1, out ++ [(s.drop f).take (i - f)]), by simp only; omega, ⟨by simp only; omega, by simp only; omega, by simp only [List.length_append, List.length_cons, List.length_nil]; omega, ?_⟩, ?_⟩
      · simp only [Nat.sub_self, List.take_zero, List.nil_append]
        rw [← linesOf_eta, List.append_assoc]; exact h4
      · (refine Weak.renS [0] hfx rfl ?_ ?_ rfl <;> (simp only [go_sem, reduceIte, exists_eq_left', exists_eq_left, Blk.mk.injEq, htq, hsn, List.length_append, List.length_cons, List.length_nil] <;> (try and_intros) <;> first | rfl | omega))
    · have hb2 : ¬ ((s.getD i 0).toNat : Int) = 10 := fun h => hb (by rw [← hg]; exact UInt8.toNat_inj.1 (by rw [show (10 : UInt8).toNat = 10 from rfl]; omega))
      rw [linesOf, if_neg hb] at h4
      simp only [List.headD_cons, List.tail_cons] at h4
      have FX := htq
      repeat' (first | refine WK.seq ?_ | refine WK.reg ?_ | refine IL.nil ?_ | refine WK.skip ?_ | refine WK.block ?_ | refine WK.exit_here ?_ | refine WK.e1 ?_ | refine WK.e2 ?_ | (with_reducible refine IL.wr ?_ ?_; focus exact cW) | refine IL.sgF ttok ?_ | (refine WK.cn (fun h => ?_) (fun h => ?_); all_goals first | (simp only [reduceCtorEq] at h; done) | (simp only [hsA, hsD, hsE, ne_eq] at h; first | done | (exfalso; omega; done) | skip) | skip))
      all_goals try (exact absurd ‹_› hb2)
      refine ⟨(i + 1, f, out), by simp only; omega, ⟨by simp only; omega, by simp only; omega, by simp only; omega, ?_⟩, ?_⟩
      · simp only [htk, List.append_assoc, List.cons_append, List.nil_append]; exact h4
      · (refine Weak.renS [0] hfx rfl ?_ ?_ rfl <;> (simp only [go_sem, reduceIte, exists_eq_left', exists_eq_left, Blk.mk.injEq] <;> (try and_intros) <;> first | rfl | omega))
  · obtain rfl : i = s.length := by omega
    have hdn : s.drop s.length = [] := by simp
    rw [hdn, linesOf] at h4
    simp only [List.headD_cons, List.tail_cons, List.append_nil] at h4
    have hsn := encs_snoc (f := strC) out ((s.drop f).take (s.length - f))
    simp only [strC] at hsn
    have hRl := congrArg List.length h4
    rw [List.length_append, List.length_cons, List.length_nil] at hRl
    have hRe := congrArg (encs strC) h4
    rw [← hsn] at hRe
    have FX := htq
    repeat' (first | refine WK.seq ?_ | refine WK.reg ?_ | refine IL.nil ?_ | refine WK.skip ?_ | refine WK.block ?_ | refine WK.exit_here ?_ | refine WK.e1 ?_ | refine WK.e2 ?_ | (with_reducible refine IL.wr ?_ ?_; focus exact cW) | refine IL.sgF ttok ?_ | (refine WK.cn (fun h => ?_) (fun h => ?_); all_goals first | (simp only [reduceCtorEq] at h; done) | (simp only [hsA, hsD, hsE, ne_eq] at h; first | done | (exfalso; omega; done) | skip) | skip))
    all_goals try ((first | refine WK.ret ⟨.inr rfl, ?_⟩ | refine ⟨.inl rfl, ?_⟩ | refine ⟨.inl trivial, ?_⟩); refine Fin.o ?_ ?_ (h1 := by first | rfl | (simp only [go_sem, show Try.f13.results.toList = [.tmp 2] from rfl, reduceIte] <;> rfl)); rotate_left 1; (focus (first | rfl | skip)); all_goals try with_reducible rfl)
    all_goals (rw [hRe, show out.length + 1 = R.length from hRl])
end Go.Proofs.Ytaaopphbgbbedaa
/- the document's rows. -/
namespace Go.Proofs.Ytaaopphbgbbedaa
open Go Go.Lift
set_option maxHeartbeats 4000000
set_option linter.unusedSimpArgs false
set_option linter.unusedVariables false
attribute [local irreducible] WK IL IP IG IW DW

theorem lines_first (t : List UInt8) : ∃ l ls, linesOf t = l :: ls ∧ (∀ j, j < l.length → t.getD j 0 = l.getD j 0) ∧ l.length ≤ t.length ∧ (ls = [] → l = t) ∧ (ls ≠ [] → l.length < t.length ∧ linesOf (t.drop (l.length + 1)) = ls) := by
  rcases cut_nl t with ⟨_, hno⟩ | ⟨p, q, ht, hno, _⟩
  · exact ⟨t, [], linesOf_no t hno, fun _ _ => rfl, Nat.le_refl _, fun _ => rfl, fun h => absurd rfl h⟩
  · refine ⟨p, linesOf q, by rw [ht]; exact linesOf_cut p q hno, fun j hj => ?_, by rw [ht]; simp, fun h => absurd h (linesOf_ne q), fun _ => ⟨by rw [ht]; simp, ?_⟩⟩
    · rw [ht]; simp [List.getD_eq_getElem?_getD, List.getElem?_append_left hj]
    · rw [show t.drop (p.length + 1) = q by rw [ht, List.drop_append]; simp]
theorem drows_call (s : List UInt8) (w : Nat) (hw : 1 ≤ w) (hw2 : (w : Int) ≤ 9223372036854775807) (hs : s.length ≤ 1000000) :
    SCall Try.prog 7 [.v (.string ⟨s.toArray⟩), .v (.int .i64 w)] (.own 33 (rowsT w s).length true (encs rwC (rowsT w s))) [.v (.string ⟨s.toArray⟩), .v (.int .i64 w)] := by
  generalize hR : rowsT w s = R
  unfold rowsT at hR
  have hli := SCall.frz (lines_call s hs) rfl
  simp only [frzR] at hli
  generalize hA : linesOf s = A at *
  refine SCall.of_body' (TT := TT) (fun _ => false) [false, false] ttok Try.func7 rfl (Nat.le_of_ble_eq_true rfl) rfl fun fx hfx => WK.top ?_
  simp only [impl, imp, argT, List.append_nil, List.map_nil, List.nil_append, show Try.f7.ntmps = 75 from rfl, Nat.zero_add, Nat.reduceAdd]
  repeat' (first | refine WK.seq ?_ | refine WK.reg ?_ | refine IL.nil ?_ | refine WK.skip ?_ | refine WK.block ?_ | refine WK.exit_here ?_ | refine WK.e1 ?_ | refine WK.e2 ?_ | (with_reducible refine IL.wr ?_ ?_; focus exact cW) | refine IL.sg ttok ?_ | refine IL.cS ttok ent13 [.bor] false ?_ (hS := by exact hli) | (refine WK.cn (fun h => ?_) (fun h => ?_); all_goals first | (simp only [reduceCtorEq] at h; done) | (simp only [hsA, hsD, hsE, ne_eq] at h; first | done | (exfalso; omega; done) | skip) | skip))
  refine WK.whileS (α := Nat × Nat × List Rw) (fun x => A.length - x.1) (fun x => x.1 ≤ A.length ∧ x.2.1 ≤ s.length + 1 ∧ x.2.2.length ≤ x.2.1 ∧ (x.1 < A.length → x.2.1 ≤ s.length ∧ A.drop x.1 = linesOf (s.drop x.2.1)) ∧ x.2.2 ++ rowsA w x.2.1 (A.drop x.1) = R)
    (fun x => ⟨75, [(0, .v (.string ⟨s.toArray⟩)), (1, .v (.int .i64 w)), (5, .sl 0 0 0 x.2.2.length), (6, .tr A.length (encs strC A)), (7, .v (.int .i64 x.2.1)), (8, .v (.int .i64 x.1))], [some ⟨true, 33, x.2.2.length, true, encs rwC x.2.2, 0, false⟩]⟩) (0, 0, []) ⟨⟨Nat.zero_le _, Nat.zero_le _, Nat.le_refl _, fun _ => ⟨Nat.zero_le _, by simpa using hA.symm⟩, by simpa using hR⟩, ?_⟩ ?_
  · (refine Weak.renS [1] hfx rfl ?_ ?_ rfl <;> (simp only [go_sem, reduceIte, exists_eq_left', exists_eq_left, Blk.mk.injEq, encs_nil, List.length_nil] <;> (try and_intros) <;> first | rfl | omega))
  rintro ⟨i, a, out⟩ ⟨h1, h2, h3, h4, h5⟩
  simp only at h1 h2 h3 h4 h5 ⊢
  have hAs : A.length ≤ 1000001 := by
    have : ∀ t : List UInt8, (linesOf t).length ≤ t.length + 1 := by
      intro t
      induction t with
      | nil => simp [linesOf]
      | cons c t ih =>
        unfold linesOf
        split
        · simpa using ih
        · rw [linesOf_eta] at ih; simpa using Nat.le_succ_of_le ih
    have := this s
    rw [hA] at this; omega
  by_cases hi : i < A.length
  rotate_left
  · obtain rfl : i = A.length := by omega
    have hdn : A.drop A.length = [] := by simp
    rw [hdn, rowsA, List.append_nil] at h5
    subst h5
    repeat' (first | refine WK.seq ?_ | refine WK.reg ?_ | refine IL.nil ?_ | refine WK.skip ?_ | refine WK.block ?_ | refine WK.exit_here ?_ | refine WK.e1 ?_ | refine WK.e2 ?_ | (with_reducible refine IL.wr ?_ ?_; focus exact cW) | refine IL.sg ttok ?_ | refine IL.cS ttok ent13 [.bor] false ?_ (hS := by exact hli) | (refine WK.cn (fun h => ?_) (fun h => ?_); all_goals first | (simp only [reduceCtorEq] at h; done) | (simp only [hsA, hsD, hsE, ne_eq] at h; first | done | (exfalso; omega; done) | skip) | skip))
    all_goals try ((first | refine WK.ret ⟨.inr rfl, ?_⟩ | refine ⟨.inl rfl, ?_⟩ | refine ⟨.inl trivial, ?_⟩); refine Fin.o ?_ ?_ (h1 := by first | rfl | (simp only [go_sem, show Try.f7.results.toList = [.tmp 4] from rfl, reduceIte] <;> rfl)); rotate_left 1; (focus (first | rfl | skip)); all_goals try with_reducible rfl)
    all_goals skip
  obtain ⟨h6, h7⟩ := h4 hi
  clear h4
  obtain ⟨l, ls, e1, e2, e3, e4, e5⟩ := lines_first (s.drop a)
  rw [e1] at h7
  have hAi : A[i]? = some l := by
    have := congrArg (fun x => x[0]?) h7
    simpa using this
  have hAd : A.drop (i + 1) = ls := by
    have := congrArg List.tail h7
    simpa using this
  have hlen : A.length = i + 1 + ls.length := by
    have := congrArg List.length h7
    rw [List.length_drop, List.length_cons] at this; omega
  have hat : (encs strC A)[i * 1 + 0]? = some (.v (.string ⟨l.toArray⟩)) := encs_get strC_length hAi (by decide)
  rw [Nat.add_zero, Nat.mul_one] at hat
  have hne : encs strC A ≠ [] := encs_ne strC_length (by decide) hAi
  rw [List.length_drop] at e3
  rw [h7, rowsA] at h5
  have hgx : ∀ j, j < l.length → s.getD (a + j) 0 = l.getD j 0 := fun j hj => by
    rw [← e2 j hj]; simp [List.getD_eq_getElem?_getD]
  have FX := hat
  repeat' (first | refine WK.seq ?_ | refine WK.reg ?_ | refine IL.nil ?_ | refine WK.skip ?_ | refine WK.block ?_ | refine WK.exit_here ?_ | refine WK.e1 ?_ | refine WK.e2 ?_ | (with_reducible refine IL.wr ?_ ?_; focus exact cW) | refine IL.sgF ttok ?_ | refine IL.cSF ttok ent13 [.bor] false ?_ (hS := by exact hli) | (refine WK.cn (fun h => ?_) (fun h => ?_); all_goals first | (simp only [reduceCtorEq] at h; done) | (simp only [hsA, hsD, hsE, ne_eq] at h; first | done | (exfalso; omega; done) | skip) | skip))
  refine WK.whileS (α := Nat × List Rw) (fun x => l.length - x.1) (fun x => x.1 ≤ l.length ∧ x.2.length ≤ a + x.1 ∧ x.2 ++ (rowsL w (!ls.isEmpty) (l.drop x.1).length (a + x.1) (l.drop x.1) ++ rowsA w (a + l.length + 1) ls) = R)
    (fun x => ⟨75, [(0, .v (.string ⟨s.toArray⟩)), (1, .v (.int .i64 w)), (5, .sl 0 0 0 x.2.length), (6, .tr A.length (encs strC A)), (7, .v (.int .i64 ((a + x.1 : Nat) : Int))), (8, .v (.int .i64 i)), (9, .v (.int .i64 ((a + l.length : Nat) : Int)))], [some ⟨true, 33, x.2.length, true, encs rwC x.2, 0, false⟩]⟩) (0, out) ⟨⟨Nat.zero_le _, h3, by simpa using h5⟩, ?_⟩ ?_
  · (refine Weak.renS [0] hfx rfl ?_ ?_ rfl <;> (simp only [go_sem, reduceIte, exists_eq_left', exists_eq_left, Blk.mk.injEq, Nat.add_zero, Int.natCast_add] <;> (try and_intros) <;> first | rfl | omega))
  rintro ⟨d, o2⟩ ⟨g1, g2, g3⟩
  simp only at g1 g2 g3 ⊢
  have hld : (l.drop d).length = l.length - d := List.length_drop
  have htq : (encs rwC o2).take (o2.length * 3) = encs rwC o2 := encs_take_all rwC_length o2
  have hlc := cutN_le (l.drop d) w
  have hgd : ∀ j, j < l.length - d → s.getD (a + d + j) 0 = (l.drop d).getD j 0 := fun j hj => by
    rw [show a + d + j = a + (d + j) by omega, hgx (d + j) (by omega)]; simp [List.getD_eq_getElem?_getD]
  by_cases hw3 : (l.drop d).length ≤ w
  · rw [rowsL_one _ _ _ _ _ hw3] at g3
    rw [hld] at hw3 g3
    have hends : decide (((i : Int) + 1) < (A.length : Int)) = !ls.isEmpty := by
      cases ls with
      | nil => rw [hlen]; simp
      | cons x y => rw [hlen]; simp; omega
    have hsn := encs_snoc (f := rwC) o2 (a + d, a + l.length, !ls.isEmpty)
    simp only [rwC, Int.natCast_add] at hsn
    rw [show a + d + (l.length - d) = a + l.length by omega] at g3
    have hcond : ¬ (((a + l.length : Nat) : Int) - ((a + d : Nat) : Int) > (w : Int)) := by omega
    have hwr : IntKind.i64.wrap (((a + l.length : Nat) : Int) - ((a + d : Nat) : Int)) = ((a + l.length : Nat) : Int) - ((a + d : Nat) : Int) := wrap_i64 (by omega) (by omega)
    have FX := And.intro hat (And.intro hends (And.intro htq hwr))
    repeat' (first | refine WK.seq ?_ | refine WK.reg ?_ | refine IL.nil ?_ | refine WK.skip ?_ | refine WK.block ?_ | refine WK.exit_here ?_ | refine WK.e1 ?_ | refine WK.e2 ?_ | (with_reducible refine IL.wr ?_ ?_; focus exact cW) | refine IL.sgF ttok ?_ | refine IL.cSF ttok ent13 [.bor] false ?_ (hS := by exact hli) | (refine WK.cn (fun h => ?_) (fun h => ?_); all_goals first | (simp only [reduceCtorEq] at h; done) | (simp only [hsA, hsD, hsE, ne_eq] at h; first | done | (exfalso; omega; done) | skip) | skip))
    all_goals try (exact absurd ‹_› hcond)
    refine ⟨(i + 1, a + l.length + 1, o2 ++ [(a + d, a + l.length, !ls.isEmpty)]), by simp only; omega, ⟨by simp only; omega, by simp only; omega, by simp only [List.length_append, List.length_cons, List.length_nil]; omega, fun h => ?_, ?_⟩, ?_⟩
    · simp only at h ⊢
      have hls : ls ≠ [] := by rintro rfl; simp at hlen; omega
      obtain ⟨k1, k2⟩ := e5 hls
      rw [List.length_drop] at k1
      refine ⟨by omega, ?_⟩
      rw [hAd, ← k2, List.drop_drop, Nat.add_assoc]
    · simp only [hAd, List.append_assoc]; exact g3
    · (refine Weak.renS [0] hfx rfl ?_ ?_ rfl <;> (simp only [go_sem, reduceIte, exists_eq_left', exists_eq_left, Blk.mk.injEq, htq, hsn, hends, List.length_append, List.length_cons, List.length_nil, Int.natCast_add] <;> (try and_intros) <;> first | rfl | omega))
  · rw [rowsL_more _ _ hw _ _ hw3] at g3
    have hcp := cutN_pos (l.drop d) w hw hw3
    have hcut : cutN (l.drop d) w = if sc (l.drop d) w = 0 then w else sc (l.drop d) w := by unfold cutN; rw [if_neg hw3]
    rw [hld] at hw3
    have hwl : w < l.length - d := by omega
    have hcond : ((a + l.length : Nat) : Int) - ((a + d : Nat) : Int) > (w : Int) := by omega
    have hwr : IntKind.i64.wrap (((a + l.length : Nat) : Int) - ((a + d : Nat) : Int)) = ((a + l.length : Nat) : Int) - ((a + d : Nat) : Int) := wrap_i64 (by omega) (by omega)
    have FX := hwr
    repeat' (first | refine WK.seq ?_ | refine WK.reg ?_ | refine IL.nil ?_ | refine WK.skip ?_ | refine WK.block ?_ | refine WK.exit_here ?_ | refine WK.e1 ?_ | refine WK.e2 ?_ | (with_reducible refine IL.wr ?_ ?_; focus exact cW) | refine IL.sgF ttok ?_ | refine IL.cSF ttok ent13 [.bor] false ?_ (hS := by exact hli) | (refine WK.cn (fun h => ?_) (fun h => ?_); all_goals first | (simp only [reduceCtorEq] at h; done) | (simp only [hsA, hsD, hsE, ne_eq] at h; first | done | (exfalso; omega; done) | skip) | skip))
    all_goals try (exact absurd hcond ‹_›)
    refine WK.whileS (α := Nat) (fun x => x) (fun x => x ≤ w ∧ sc (l.drop d) x = sc (l.drop d) w)
      (fun x => ⟨75, [(0, .v (.string ⟨s.toArray⟩)), (1, .v (.int .i64 w)), (5, .sl 0 0 0 o2.length), (6, .tr A.length (encs strC A)), (7, .v (.int .i64 ((a + d : Nat) : Int))), (8, .v (.int .i64 i)), (9, .v (.int .i64 ((a + l.length : Nat) : Int))), (10, .v (.int .i64 w)), (11, .v (.int .i64 (((a + d : Nat) : Int) + (x : Int) - 1)))], [some ⟨true, 33, o2.length, true, encs rwC o2, 0, false⟩]⟩) w ⟨⟨Nat.le_refl _, rfl⟩, ?_⟩ ?_
    · (refine Weak.renS [0] hfx rfl ?_ ?_ rfl <;> (simp only [go_sem, reduceIte, exists_eq_left', exists_eq_left, Blk.mk.injEq] <;> (try and_intros) <;> first | rfl | omega))
    have hfin : ∀ n, cutN (l.drop d) w = n → o2 ++ [(a + d, a + d + n, false)] ++ (rowsL w (!ls.isEmpty) (l.drop (d + n)).length (a + (d + n)) (l.drop (d + n)) ++ rowsA w (a + l.length + 1) ls) = R := by
      rintro n rfl
      rw [List.drop_drop] at g3
      rw [← g3, List.append_assoc]
      simp only [List.cons_append, List.nil_append, Nat.add_assoc]
    have hc1 : cutN (l.drop d) w ≤ w := hlc.2.1
    clear g3 hlc h5
    rintro x ⟨hx, hsx⟩
    rcases x with _ | j
    · have hcw : cutN (l.drop d) w = w := by rw [hcut, ← hsx]; rfl
      have hsn := encs_snoc (f := rwC) o2 (a + d, a + d + w, false)
      simp only [rwC, Int.natCast_add, Int.add_assoc] at hsn
      have hcond2 : ¬ (((a + d : Nat) : Int) + ((0 : Nat) : Int) - 1 ≥ ((a + d : Nat) : Int)) := by omega
      have hz := hfin w hcw
      have FX := htq
      repeat' (first | refine WK.seq ?_ | refine WK.reg ?_ | refine IL.nil ?_ | refine WK.skip ?_ | refine WK.block ?_ | refine WK.exit_here ?_ | refine WK.e1 ?_ | refine WK.e2 ?_ | (with_reducible refine IL.wr ?_ ?_; focus exact cW) | refine IL.sgF ttok ?_ | refine IL.cSF ttok ent13 [.bor] false ?_ (hS := by exact hli) | (refine WK.cn (fun h => ?_) (fun h => ?_); all_goals first | (simp only [reduceCtorEq] at h; done) | (simp only [hsA, hsD, hsE, ne_eq] at h; first | done | (exfalso; omega; done) | skip) | skip))
      all_goals try (exact absurd ‹_› hcond2)
      refine ⟨(d + w, o2 ++ [(a + d, a + d + w, false)]), by simp only; omega, ⟨by simp only; omega, by simp only [List.length_append, List.length_cons, List.length_nil]; omega, hz⟩, ?_⟩
      (refine Weak.renS [0] hfx rfl ?_ ?_ rfl <;> (simp only [go_sem, reduceIte, exists_eq_left', exists_eq_left, Blk.mk.injEq, htq, hsn, List.length_append, List.length_cons, List.length_nil, Int.natCast_add, Int.add_assoc] <;> (try and_intros) <;> first | rfl | omega))
    · have e : ((a + d : Nat) : Int) + ((j + 1 : Nat) : Int) - 1 = ((a + d + j : Nat) : Int) := by omega
      rw [e]
      have hgj := hgd j (by omega)
      have hjl : a + d + j < s.length := by omega
      have hsc : sc (l.drop d) (j + 1) = if (l.drop d).getD j 0 = 32 then j + 1 else sc (l.drop d) j := rfl
      have hcond2 : ((a + d + j : Nat) : Int) ≥ ((a + d : Nat) : Int) := by omega
      by_cases hb : (l.drop d).getD j 0 = 32
      · rw [if_pos hb, hsx] at hsc
        have hcw : cutN (l.drop d) w = j + 1 := by rw [hcut, hsc, if_neg (by omega)]
        have hb2 : ((s.getD (a + d + j) 0).toNat : Int) = 32 := by rw [hgj, hb]; rfl
        have hsn := encs_snoc (f := rwC) o2 (a + d, a + d + (j + 1), false)
        simp only [rwC, Int.natCast_add, Int.add_assoc] at hsn
        have hz := hfin (j + 1) hcw
        have hnw : IntKind.i64.wrap (((a + d + j : Nat) : Int) - ((a + d : Nat) : Int)) = (j : Int) := by rw [wrap_i64 (by omega) (by omega)]; omega
        have FX := And.intro htq hnw
        repeat' (first | refine WK.seq ?_ | refine WK.reg ?_ | refine IL.nil ?_ | refine WK.skip ?_ | refine WK.block ?_ | refine WK.exit_here ?_ | refine WK.e1 ?_ | refine WK.e2 ?_ | (with_reducible refine IL.wr ?_ ?_; focus exact cW) | refine IL.sgF ttok ?_ | refine IL.cSF ttok ent13 [.bor] false ?_ (hS := by exact hli) | (refine WK.cn (fun h => ?_) (fun h => ?_); all_goals first | (simp only [reduceCtorEq] at h; done) | (simp only [hsA, hsD, hsE, ne_eq] at h; first | done | (exfalso; omega; done) | skip) | skip))
        all_goals try first | (exact absurd hcond2 ‹_›) | (exact absurd hb2 ‹_›)
        refine ⟨(d + (j + 1), o2 ++ [(a + d, a + d + (j + 1), false)]), by simp only; omega, ⟨by simp only; omega, by simp only [List.length_append, List.length_cons, List.length_nil]; omega, hz⟩, ?_⟩
        (refine Weak.renS [0] hfx rfl ?_ ?_ rfl <;> (simp only [go_sem, reduceIte, exists_eq_left', exists_eq_left, Blk.mk.injEq, htq, hsn, List.length_append, List.length_cons, List.length_nil, Int.natCast_add, Int.add_assoc] <;> (try and_intros) <;> first | rfl | omega))
      · rw [if_neg hb, hsx] at hsc
        have hb2 : ¬ ((s.getD (a + d + j) 0).toNat : Int) = 32 := fun h => hb (by rw [← hgj]; exact UInt8.toNat_inj.1 (by rw [show (32 : UInt8).toNat = 32 from rfl]; omega))
        have FX := htq
        repeat' (first | refine WK.seq ?_ | refine WK.reg ?_ | refine IL.nil ?_ | refine WK.skip ?_ | refine WK.block ?_ | refine WK.exit_here ?_ | refine WK.e1 ?_ | refine WK.e2 ?_ | (with_reducible refine IL.wr ?_ ?_; focus exact cW) | refine IL.sgF ttok ?_ | refine IL.cSF ttok ent13 [.bor] false ?_ (hS := by exact hli) | (refine WK.cn (fun h => ?_) (fun h => ?_); all_goals first | (simp only [reduceCtorEq] at h; done) | (simp only [hsA, hsD, hsE, ne_eq] at h; first | done | (exfalso; omega; done) | skip) | skip))
        all_goals try first | (exact absurd hcond2 ‹_›) | (exact absurd ‹_› hb2)
        refine ⟨j, by omega, ⟨by omega, hsc.symm⟩, ?_⟩
        (refine Weak.renS [0] hfx rfl ?_ ?_ rfl <;> (simp only [go_sem, reduceIte, exists_eq_left', exists_eq_left, Blk.mk.injEq, Int.natCast_add] <;> (try and_intros) <;> first | rfl | omega))
end Go.Proofs.Ytaaopphbgbbedaa
/- strings.Builder: what is written stands behind what stood. -/
namespace Go.Proofs.Ytaaopphbgbbedaa
open Go Go.RowKit Go.Lib
set_option maxHeartbeats 4000000
set_option maxRecDepth 100000
set_option linter.unusedSimpArgs false
set_option linter.unusedVariables false

abbrev BdT : TypeId := 41
theorem info5 : ∃ i0, (Try.prog).info? 5 = some i0 ∧ i0.zero = some (.int .u8 0) ∧ i0.size = 1 ∧ i0.bytes = 1 := ⟨_, rfl, rfl, rfl, rfl⟩
theorem infoB : ∃ j, (Try.prog).info? BdT = some j ∧ j.size = 2 := ⟨_, rfl, rfl⟩
theorem liesB : liesAt Try.prog (Try.prog).depth BdT (2 / (Try.prog).cellsOf BdT) 0 BdT 1 = true := by kernel_rfl
theorem ck_used (b : Nat) (w : World) (h0 : w.cell? ⟨b, 0, none⟩ = some (.pointer (some ⟨b, 0, none⟩))) :
    Calls Try.prog 16 #[.pointer (some ⟨b, 0, none⟩)] w fun e w' => e = .returned (.tuple #[]) ∧ w' = w := by
  obtain ⟨j, hj, _⟩ := infoB
  have hm := mixed
  have q1 := Try.underlying38; have q2 := Try.isAgg38; have q3 := Try.sizeOf38
  have q4 := Try.underlying41; have q5 := Try.isAgg41; have q6 := Try.sizeOf41; have q7 := run_underlying Try.underlying41
  go_enter Try.func16, Try.ntmps16
  go_wp2
  rw [Lib.run_neq_ptr_same w _ q1 hj]
  go_wp2
  go_end0
  exact ⟨rfl, rfl⟩
theorem ck_fresh (b : Nat) (w : World) (h0 : w.cell? ⟨b, 0, none⟩ = some (.pointer none)) (hsh : w.shape? b = some (BdT, 2)) (hfz : w.frozen? ⟨b, 0, none⟩ = false) :
    Calls Try.prog 16 #[.pointer (some ⟨b, 0, none⟩)] w fun e w' => e = .returned (.tuple #[]) ∧ w' = w.setCell ⟨b, 0, none⟩ (.pointer (some ⟨b, 0, none⟩)) := by
  obtain ⟨j, hj, hjs⟩ := infoB
  have hm := mixed
  have q1 := Try.underlying38; have q2 := Try.isAgg38; have q3 := Try.sizeOf38
  have q4 := Try.underlying41; have q5 := Try.isAgg41; have q6 := Try.sizeOf41; have q7 := run_underlying Try.underlying41
  have q8 := Try.underlying53; have q9 := Try.isAgg53; have q10 := Try.sizeOf53
  go_enter Try.func16, Try.ntmps16
  go_wp2
  rw [Lib.run_to_unsafe w ⟨b, 0, none⟩ q1 q8 hj (by rw [hjs]; decide) hsh (Nat.zero_lt_succ 1)]
  simp only [Result.andThen]
  rw [Oper.upon_value]
  go_wp2
  rw [run_callFunc_extern Try.func19 (by kernel_rfl) (by kernel_rfl) (by kernel_rfl) (e := Extern.AbiNoEscape.same) (by kernel_rfl), Lib.run_noEscape]
  simp only [Result.andThen]
  rw [Oper.upon_value]
  go_wp2
  rw [Lib.run_from_unsafe w ⟨b, 0, none⟩ q8 q1 hj hsh liesB]
  simp only [Result.andThen]
  rw [Oper.upon_value]
  go_wp2
  go_end0
  exact ⟨rfl, rfl⟩
theorem ck_any (B b : Nat) (l : List Value) (w : World) (h : Lib.IsBuilder BdT 5 B b l w) :
    Calls Try.prog 16 #[.pointer (some ⟨b, 0, none⟩)] w fun e w' => e = .returned (.tuple #[]) ∧ Lib.BuilderAt BdT 5 B b (.pointer (some ⟨b, 0, none⟩)) l w' ∧ Below B w w' := by
  rcases h with h | h
  · refine (ck_fresh b w h.cell0 h.shape h.frozen0).mono ?_
    rintro e w' ⟨rfl, rfl⟩
    exact ⟨rfl, h.used _, (Below.refl B w).setCell (p := ⟨b, 0, none⟩) h.1 _⟩
  · refine (ck_used b w h.cell0).mono ?_
    rintro e w' ⟨rfl, rfl⟩
    exact ⟨rfl, h, Below.refl B _⟩
theorem bd_cells {B b : Nat} {l : List Value} {w : World} (h : Lib.BuilderAt BdT 5 B b (.pointer (some ⟨b, 0, none⟩)) l w) :
    ∃ v, B ≤ b ∧ w.heap[b]? = some (.cells #[.pointer (some ⟨b, 0, none⟩), v] BdT (0, 0)) ∧ w.ownsRow B 5 1 v l.length l ∧ v.ownBlock ≠ some b ∧ w.cell? ⟨b, 0, none⟩ = some (.pointer (some ⟨b, 0, none⟩)) ∧ w.cell? ⟨b, 1, none⟩ = some v ∧ w.frozen? ⟨b, 1, none⟩ = false ∧ b < w.heap.size := by
  have hlt := h.lt
  obtain ⟨hB, v, hbk, hown, hne⟩ := h
  exact ⟨v, hB, hbk, hown, hne, by rw [Lib.cell_of_heap hbk]; rfl, by rw [Lib.cell_of_heap hbk]; rfl, Lib.frozen_of_heap hbk 1, hlt⟩
theorem row_slice {w : World} {B n : Nat} {v : Value} {l : List Value} (h : w.ownsRow B 5 1 v n l) : ∃ ao cap, v = .slice ao n cap := by
  rcases h.2 with ⟨hv, h0⟩ | ⟨g, cap, cur, hv, _⟩
  · exact ⟨none, 0, by rw [hv, h0]⟩
  · exact ⟨_, _, hv⟩
theorem bd_keep {b : Nat} {v : Value} {w1 w2 : World} (hbk : w1.heap[b]? = some (.cells #[.pointer (some ⟨b, 0, none⟩), v] BdT (0, 0))) (hlt : b < w1.heap.size) (hne : v.ownBlock ≠ some b) (hg : w1.grownBy w2 v.ownBlock) :
    w2.heap[b]? = some (.cells #[.pointer (some ⟨b, 0, none⟩), v] BdT (0, 0)) := by
  rw [hg.block b hlt (fun e => hne e.symm)]; exact hbk
theorem wstr_calls (B b : Nat) (l : List Value) (t : ByteArray) (w : World) (h : Lib.IsBuilder BdT 5 B b l w) (hlen : l.length + t.size ≤ 140737488355328) (hBw : B ≤ w.heap.size) :
    Calls Try.prog 10 #[.pointer (some ⟨b, 0, none⟩), .string t] w fun e w' => e = .returned (.tuple #[.int .i64 t.size, .nilIface]) ∧ Lib.BuilderAt BdT 5 B b (.pointer (some ⟨b, 0, none⟩)) (l ++ Lib.strCells t) w' ∧ Below B w w' := by
  obtain ⟨i0, hi, hz0, hz1, hz2⟩ := info5
  have hm := mixed
  have q1 := Try.underlying38; have q2 := Try.isAgg38; have q3 := Try.sizeOf38
  have q4 := Try.underlying41; have q5 := Try.isAgg41; have q6 := Try.sizeOf41; have q7 := run_underlying Try.underlying41
  have q8 := Try.underlying39; have q9 := Try.isAgg39; have q10 := Try.sizeOf39; have q11 := run_underlying Try.underlying39
  have q12 := Try.underlying9; have q13 := Try.isAgg9; have q14 := Try.sizeOf9; have q15 := run_underlying Try.underlying9
  have ec : ∀ args w, (callFunc 16 args).run Try.prog w = .ok (.enter 16 args) w := enters_of Try.func16 (by kernel_rfl) rfl
  go_enter Try.func10, Try.ntmps10
  go_wp2_with (go_at_fn 16; refine (ck_any B b l _ h).mono ?_)
  rintro e w1 ⟨rfl, h1, hb1⟩
  obtain ⟨v, hB, hbk, hown, hne, c0, c1, f1, hlt⟩ := bd_cells h1
  have hs1 := hb1.size
  go_wp2_with (at_builtin; refine Lib.wpList_append_own_string _ rfl _ _ 39 9 rfl B 5 i0 q8 q12 hi hz0 hz1 hz2 _ _ _ rfl hown t rfl ?c3 ?c4 ?c5 ?_)
  case c3 => unfold maxLen; omega
  case c4 => omega
  case c5 => omega
  intro v' w2 hown' hgrow _
  have hb2 := bd_keep hbk hlt hne hgrow
  have d1 : w2.cell? ⟨b, 1, none⟩ = some v := by rw [Lib.cell_of_heap hb2]; rfl
  have d0 : w2.cell? ⟨b, 0, none⟩ = some (.pointer (some ⟨b, 0, none⟩)) := by rw [Lib.cell_of_heap hb2]; rfl
  have g1 : w2.frozen? ⟨b, 1, none⟩ = false := Lib.frozen_of_heap hb2 1
  obtain ⟨ao, cap, rfl⟩ := row_slice hown'
  go_wp2
  go_ret2
  refine ⟨rfl, ?_, ?_⟩
  · exact Lib.BuilderAt.put (T := BdT) (e := 5) hB hb2 (bs' := l ++ Lib.strCells t) (by simpa [Lib.strCells_length] using hown') (by decide)
  · exact (hb1.grown hgrow (by omega) (fun k hk => (hown.lt k hk).1)).setCell (p := ⟨b, 1, none⟩) hB _
theorem wbyte_calls (B b : Nat) (l : List Value) (c : Int) (w : World) (h : Lib.IsBuilder BdT 5 B b l w) (hlen : l.length + 1 ≤ 140737488355328) (hBw : B ≤ w.heap.size) :
    Calls Try.prog 11 #[.pointer (some ⟨b, 0, none⟩), .int .u8 c] w fun e w' => e = .returned .nilIface ∧ Lib.BuilderAt BdT 5 B b (.pointer (some ⟨b, 0, none⟩)) (l ++ [.int .u8 c]) w' ∧ Below B w w' := by
  obtain ⟨i0, hi, hz0, hz1, hz2⟩ := info5
  have hm := mixed
  have q1 := Try.underlying38; have q2 := Try.isAgg38; have q3 := Try.sizeOf38
  have q4 := Try.underlying41; have q5 := Try.isAgg41; have q6 := Try.sizeOf41; have q7 := run_underlying Try.underlying41
  have q8 := Try.underlying39; have q9 := Try.isAgg39; have q10 := Try.sizeOf39; have q11 := run_underlying Try.underlying39
  have q12 := Try.underlying5; have q13 := Try.isAgg5; have q14 := Try.sizeOf5; have q15 := run_underlying Try.underlying5; have q16 := Try.zeroValue5
  have ec : ∀ args w, (callFunc 16 args).run Try.prog w = .ok (.enter 16 args) w := enters_of Try.func16 (by kernel_rfl) rfl
  go_enter Try.func11, Try.ntmps11
  go_wp2_with (go_at_fn 16; refine (ck_any B b l _ h).mono ?_)
  rintro e w1 ⟨rfl, h1, hb1⟩
  obtain ⟨v, hB, hbk, hown, hne, c0, c1, f1, hlt⟩ := bd_cells h1
  have hs1 := hb1.size
  go_wp2_with (at_builtin; refine wpList_append_own _ rfl _ _ 39 rfl B 5 i0 (.int .u8 0) 1 1 q8 hi hz0 hz1 hz2 rfl (by decide) _ _ _ rfl (hown.alloc _) ⟨w1.heap.size, 0, none⟩ 1 1 [.int .u8 c] rfl rfl ?c1 ?c2 ?c3 ?c4 ?c5 ?_)
  case c1 =>
    intro j u hj
    match j, hj with
    | 0, hj => simp at hj; subst hj; simp [Addr.add]
  case c2 => intro u hu; simp at hu; subst hu; rfl
  case c3 => unfold maxLen; omega
  case c4 => omega
  case c5 => simp; omega
  intro v' w2 hown' hgrow _
  have hb2 : w2.heap[b]? = some (.cells #[.pointer (some ⟨b, 0, none⟩), v] BdT (0, 0)) := by
    rw [hgrow.block b (by simp; omega) (fun e => hne e.symm), Lib.alloc_old w1 _ b hlt]; exact hbk
  have d1 : w2.cell? ⟨b, 1, none⟩ = some v := by rw [Lib.cell_of_heap hb2]; rfl
  have d0 : w2.cell? ⟨b, 0, none⟩ = some (.pointer (some ⟨b, 0, none⟩)) := by rw [Lib.cell_of_heap hb2]; rfl
  have g1 : w2.frozen? ⟨b, 1, none⟩ = false := Lib.frozen_of_heap hb2 1
  obtain ⟨ao, cap, rfl⟩ := row_slice hown'
  go_wp2
  go_ret
  refine ⟨rfl, ?_, ?_⟩
  · exact Lib.BuilderAt.put (T := BdT) (e := 5) hB hb2 (bs' := l ++ [.int .u8 c]) (by simpa using hown') (by decide)
  · exact ((hb1.alloc (by omega) _).grown hgrow (by simp; omega) (fun k hk => (hown.lt k hk).1)).setCell (p := ⟨b, 1, none⟩) hB _
end Go.Proofs.Ytaaopphbgbbedaa
/- Contracts of Go's library, laid at this program. -/
namespace Go.Proofs
open Go.Shelf
def Try.lays169_ren : Go.Shelf.Ren := ⟨fun | 169 => 12 | n => n, fun | 70 => 38 | 9 => 9 | 0 => 0 | 72 => 41 | 37 => 39 | 127 => 51 | 3 => 3 | 5 => 5 | n => n, fun | n => n⟩
theorem Try.lays169 : Go.Proofs.Lays.n169 Try.prog Try.lays169_ren := {
  mixed := by kernel_rfl
  f169 := Try.func12.trans (congrArg some (by kernel_rfl))
  t0 := Try.underlying0
  a0 := Try.isAgg0
  z0 := Try.sizeOf0
  v0 := Try.zeroValue0
  t3 := Try.underlying3
  a3 := Try.isAgg3
  z3 := Try.sizeOf3
  v3 := Try.zeroValue3
  t9 := Try.underlying9
  a9 := Try.isAgg9
  z9 := Try.sizeOf9
  v9 := Try.zeroValue9
  t37 := Try.underlying39
  a37 := Try.isAgg39
  z37 := Try.sizeOf39
  v37 := Try.zeroValue39
  t70 := Try.underlying38
  a70 := Try.isAgg38
  z70 := Try.sizeOf38
  v70 := Try.zeroValue38
  t72 := Try.underlying41
  a72 := Try.isAgg41
  z72 := Try.sizeOf41
  v72 := Try.zeroValue41
  t127 := Try.underlying51
  a127 := Try.isAgg51
  z127 := Try.sizeOf51
  v127 := Try.zeroValue51 }
theorem Try.Builder_Extra_169 : Builder.Extra Try.prog Try.lays169_ren := {
  sizeBuilder := by kernel_rfl
  liesBuilder := by kernel_rfl
  t5 := Try.underlying5
  a5 := Try.isAgg5
  z5 := Try.sizeOf5
  v5 := Try.zeroValue5
  infoByte := by kernel_rfl
  cellsByte := by kernel_rfl
  sizeByte := by kernel_rfl
  neB5 := by decide }
end Go.Proofs
/- layout.Show. -/
namespace Go.Proofs.Ytaaopphbgbbedaa
open Go Go.Lift Go.RowKit Go.Lib
set_option maxHeartbeats 4000000
set_option maxRecDepth 100000
set_option linter.unusedSimpArgs false
set_option linter.unusedVariables false

theorem rowsL_ne (w : Nat) (e : Bool) (f a : Nat) (l : List UInt8) : rowsL w e f a l ≠ [] := by
  cases f with
  | zero => simp [rowsL]
  | succ f => unfold rowsL; split <;> simp
theorem rowsT_ne (w : Nat) (s : List UInt8) : rowsT w s ≠ [] := by
  unfold rowsT
  rw [linesOf_eta, rowsA]
  intro h
  exact rowsL_ne _ _ _ _ _ (List.append_eq_nil_iff.1 h).1
def InR (n : Nat) (l : List Rw) : Prop := ∀ r ∈ l, r.1 ≤ r.2.1 ∧ r.2.1 ≤ n
theorem rowsL_in (w : Nat) (e : Bool) : ∀ (f a : Nat) (l : List UInt8), ∀ r ∈ rowsL w e f a l, r.1 ≤ r.2.1 ∧ a ≤ r.1 ∧ r.2.1 ≤ a + l.length
  | 0, a, l, r, h => by simp only [rowsL, List.mem_singleton] at h; subst h; simp
  | f + 1, a, l, r, h => by
    unfold rowsL at h
    split at h
    · simp only [List.mem_singleton] at h; subst h; simp
    · have hc := cutN_le l w
      rcases List.mem_cons.1 h with rfl | h
      · simp only; omega
      · have := rowsL_in w e f _ _ r h
        rw [List.length_drop] at this; omega
theorem rowsA_in (w : Nat) : ∀ (n : Nat) (t : List UInt8) (a : Nat), t.length < n → ∀ r ∈ rowsA w a (linesOf t), r.1 ≤ r.2.1 ∧ r.2.1 ≤ a + t.length
  | 0, t, a, hn, _, _ => by omega
  | n + 1, t, a, hn, r, h => by
    rcases cut_nl t with ⟨_, hno⟩ | ⟨p, q, ht, hno, _⟩
    · rw [linesOf_no t hno, rowsA, rowsA, List.append_nil] at h
      have := rowsL_in _ _ _ _ _ r h
      omega
    · have hl : t.length = p.length + (q.length + 1) := by rw [ht]; simp
      rw [ht, linesOf_cut p q hno, rowsA] at h
      rcases List.mem_append.1 h with h | h
      · have := rowsL_in _ _ _ _ _ r h
        omega
      · have := rowsA_in w n q _ (by omega) r h
        omega
theorem rowsT_in (w : Nat) (s : List UInt8) : InR s.length (rowsT w s) := fun r h => by
  have := rowsA_in w (s.length + 1) s 0 (by omega) r h
  omega
theorem own_rows {P : Program} {R : Nat → Prop} {w : World} {l : List Rw} {y : Value} {os : List OwnR} {e : TypeId} {fl : Bool} (he : (P.info? e).map (·.size) = some 3) (h : BR P R w (.own e l.length fl (encs rwC l)) y os) (hne : l ≠ []) :
    ∃ g cap, y = .slice (some ⟨g, 0, none⟩) l.length cap ∧ os = [.blk g] ∧ g < w.heap.size ∧ l.length ≤ cap ∧ cap ≤ maxLen ∧ ∀ (k : Nat) (r : Rw), l[k]? = some r → w.cell? ⟨g, k * 3, none⟩ = some (.int .i64 r.1) ∧ w.cell? ⟨g, k * 3 + 1, none⟩ = some (.int .i64 r.2.1) ∧ w.cell? ⟨g, k * 3 + 2, none⟩ = some (.bool r.2.2) := by
  unfold BR at h
  obtain ⟨sz, ⟨i, hi, his, _⟩, _, h⟩ := h
  obtain rfl : sz = 3 := by rw [hi] at he; simp at he; omega
  rcases h with ⟨h0, _⟩ | ⟨xs, g, cap, rfl, h1, h2, rfl⟩
  · exact absurd (List.eq_nil_of_length_eq_zero h0) hne
  · have hlt := h1.lt g rfl
    have hc := h1.cells (g := g) rfl
    obtain ⟨hc1, hc2⟩ : l.length ≤ cap ∧ cap ≤ maxLen := by
      rcases h1.2 with ⟨z, _⟩ | ⟨g', cap', cur, z, _, _, z2, z3, _⟩
      · cases z
      · cases z; exact ⟨z2, z3⟩
    refine ⟨g, cap, rfl, rfl, hlt.2, hc1, hc2, fun k r hk => ?_⟩
    have key : ∀ (j : Nat) (x : Value), j < 3 → (rwC r)[j]? = some (.v x) → w.cell? ⟨g, k * 3 + j, none⟩ = some x := fun j x hj hx => by
      have e1 : (encs rwC l)[k * 3 + j]? = some (.v x) := by rw [encs_get rwC_length hk hj]; exact hx
      obtain ⟨y, e2, e3, _⟩ := h2.get _ _ e1
      unfold TR at e3
      subst e3
      have := hc _ _ e2
      rwa [Addr.add_lit, Nat.zero_add] at this
    exact ⟨key 0 _ (by decide) rfl, key 1 _ (by decide) rfl, key 2 _ (by decide) rfl⟩
theorem bd_alloc {B b : Nat} {p : Value} {l : List Value} {w : World} (o : Obj) (h : Lib.BuilderAt BdT 5 B b p l w) : Lib.BuilderAt BdT 5 B b p l (w.alloc o) := by
  have hlt := h.lt
  obtain ⟨hB, v, hbk, hown, hne⟩ := h
  exact ⟨hB, v, by rw [Lib.alloc_old w _ b hlt]; exact hbk, hown.alloc _, hne⟩
theorem hidP {p : Prop} (h : p) : Hid p := h
theorem strCells_eq2 (t : List UInt8) : Lib.strCells ⟨t.toArray⟩ = Lib.byteCells t := by rw [Lib.strCells_eq]
theorem show_calls (s : List UInt8) (w : Nat) (hw : 1 ≤ w) (hw2 : (w : Int) ≤ 9223372036854775807) (hs : s.length ≤ 1000000) (hsh : ∀ k, (showR s ((rowsT w s).take k)).length ≤ 10000000) (W : World) :
    Calls Try.prog 6 #[.string ⟨s.toArray⟩, .int .i64 w] W fun e w' => e = .returned (.tuple #[.string ⟨(showR s (rowsT w s)).toArray⟩, .int .i64 0]) ∧ Fr W w' [] := by
  have hrows := crows_call s w hw hw2 hs W (fun _ => False) [.string ⟨s.toArray⟩, .int .i64 w] [] (BRl_vs [.string ⟨s.toArray⟩, .int .i64 w]) (by simp [Disj]) (fun _ h => h.elim) (fun _ _ h => h.elim)
  have hin := rowsT_in w s
  have hne := rowsT_ne w s
  generalize rowsT w s = l at *
  have hm := mixed
  obtain ⟨j0, hj, hjs⟩ := infoB
  have q4 := Try.underlying41; have q5 := Try.isAgg41; have q6 := Try.sizeOf41; have q7 := run_underlying Try.underlying41; have q7b := Try.zeroValue41
  have q8 := Try.underlying32; have q9 := Try.isAgg32; have q10 := Try.sizeOf32; have q11 := run_underlying Try.underlying32; have q11b := Try.zeroValue32
  have q12 := Try.underlying23; have q13 := Try.isAgg23; have q14 := Try.sizeOf23; have q15 := run_underlying Try.underlying23
  have q16 := Try.underlying9; have q17 := Try.isAgg9; have q18 := Try.sizeOf9; have q19 := run_underlying Try.underlying9
  have q20 := Try.underlying3; have q21 := Try.isAgg3; have q22 := Try.sizeOf3; have q23 := run_underlying Try.underlying3
  have q24 := Try.underlying4; have q25 := Try.isAgg4; have q26 := Try.sizeOf4; have q27 := run_underlying Try.underlying4
  have ec : ∀ args w, (callFunc 5 args).run Try.prog w = .ok (.enter 5 args) w := enters_of Try.func5 (by kernel_rfl) rfl
  have ew : ∀ args w, (callFunc 10 args).run Try.prog w = .ok (.enter 10 args) w := enters_of Try.func10 (by kernel_rfl) rfl
  have eb : ∀ args w, (callFunc 11 args).run Try.prog w = .ok (.enter 11 args) w := enters_of Try.func11 (by kernel_rfl) rfl
  have es : ∀ args w, (callFunc 12 args).run Try.prog w = .ok (.enter 12 args) w := enters_of Try.func12 (by kernel_rfl) rfl
  go_enter Try.func6, Try.ntmps6
  go_wp2_with (go_at_fn 5; refine hrows.mono ?_)
  rintro e w1 ⟨v, R', o1, o2, rfl, hv, hA, hd, _, hlt, hno, how, hfr⟩
  unfold BR at hv
  obtain ⟨arr, rfl, hv⟩ := hv
  unfold BRl at hv
  obtain ⟨y, ys, p1, p2, e1, hy, hv, rfl⟩ := hv
  unfold BRl at hv
  obtain ⟨z, zs, p3, p4, rfl, hz, hv, rfl⟩ := hv
  unfold BRl at hv
  obtain ⟨rfl, rfl⟩ := hv
  unfold BR at hz
  obtain ⟨rfl, rfl⟩ := hz
  obtain ⟨g, cap, rfl, rfl, hg, hlc, hcm, hcell⟩ := own_rows rfl hy hne
  obtain rfl : arr = #[.slice (some ⟨g, 0, none⟩) l.length cap, .int .i64 0] := by apply Array.ext'; rw [e1]
  have HC : Hid (∀ (k : Nat) (r : Rw), l[k]? = some r → w1.cell? ⟨g, k * 3, none⟩ = some (.int .i64 r.1) ∧ w1.cell? ⟨g, k * 3 + 1, none⟩ = some (.int .i64 r.2.1) ∧ w1.cell? ⟨g, k * 3 + 2, none⟩ = some (.bool r.2.2)) := hidP hcell
  have HF := hidP hfr
  have HS := hidP hsh
  have HI := hidP hin
  have hl63 : l.length ≤ 9223372036854775807 := by unfold maxLen at hcm; omega
  clear hcell hfr hsh hin hA hd hlt hno how hy e1 hrows hne
  go_wp2_with fail
  go_loopw [22] (fun i wr => ∃ k : Nat, k ≤ l.length ∧ i = .int .i64 k ∧ Hid (Lib.IsBuilder BdT 5 w1.heap.size w1.heap.size (Lib.byteCells (showR s (l.take k))) wr) ∧ Hid (Below w1.heap.size w1 wr)) (fun i _ => l.length - (RowKit.intOf i).toNat)
  case atStart => exact ⟨0, Nat.zero_le _, rfl, .inl ⟨Nat.le_refl _, .slice none 0 0, heap_alloc_new _ _, World.ownsRow_nil _ _ _ _, by simp [Value.ownBlock]⟩, (Below.refl _ _).alloc (Nat.le_refl _) _⟩
  case round =>
    obtain ⟨k, hk, rfl, HB, HW⟩ := hrel
    have hBw : w1.heap.size ≤ wr.heap.size := HW.out.size
    by_cases hkn : k < l.length
    · obtain ⟨r, hr⟩ : ∃ r, l[k]? = some r := ⟨l[k], List.getElem?_eq_getElem hkn⟩
      obtain ⟨c1, c2, c3⟩ := HC.out k r hr
      rw [← HW.out.cell (p := ⟨g, _, none⟩) hg] at c1 c2 c3
      have hrin := HI.out r (List.mem_of_getElem? hr)
      have hsn := showR_snoc s (l.take k) r
      rw [show l.take k ++ [r] = l.take (k + 1) by rw [List.take_add_one, hr]; rfl] at hsn
      have hk1 := HS.out (k + 1)
      rw [hsn] at hk1
      simp only [List.length_append, List.length_cons, List.length_nil] at hk1
      generalize ht : (s.drop r.1).take (r.2.1 - r.1) = t at hsn hk1
      have HT := hidP ht
      clear ht
      have HN := hidP hsn
      have HR := hidP hr
      clear hsn hr
      generalize showR s (l.take k) = acc at *
      have hB2 : Lib.IsBuilder BdT 5 w1.heap.size w1.heap.size (Lib.byteCells acc) (wr.alloc (Obj.cells #[Value.int IntKind.i64 ↑r.1, Value.int IntKind.i64 ↑r.2.1, Value.bool r.2.2] 32)) := HB.out.imp (bd_alloc _) (bd_alloc _)
      have hW2 := HW.out.alloc hBw (Obj.cells #[Value.int IntKind.i64 ↑r.1, Value.int IntKind.i64 ↑r.2.1, Value.bool r.2.2] 32)
      have HB2 := hidP hB2
      have HW2 := hidP hW2
      clear hB2 hW2
      go_wp2_with fail
      rw [HT.out]
      refine (wstr_calls w1.heap.size w1.heap.size _ ⟨t.toArray⟩ _ HB2.out (by rw [Lib.byteCells_length, ba_size]; omega) HW2.out.size).mono ?_
      rintro e w3 ⟨rfl, h3, hb3⟩
      rw [strCells_eq2, ← Lib.byteCells_append] at h3
      have HB3 := hidP (Or.inr h3 : Lib.IsBuilder BdT 5 w1.heap.size w1.heap.size _ w3)
      have hBw3 : w1.heap.size ≤ w3.heap.size := (HW2.out.trans hb3).size
      have HW3 := hidP (HW2.out.trans hb3)
      clear h3 hb3
      go_wp2_with fail
      refine (wbyte_calls w1.heap.size w1.heap.size _ 10 _ HB3.out (by rw [Lib.byteCells_length, List.length_append]; omega) hBw3).mono ?_
      rintro e w4 ⟨rfl, h4, hb4⟩
      rw [show ([Value.int .u8 10] : List Value) = Lib.byteCells [10] from rfl, ← Lib.byteCells_append, List.append_assoc, ← HN.out] at h4
      have HB4 := hidP (Or.inr h4 : Lib.IsBuilder BdT 5 w1.heap.size w1.heap.size _ w4)
      have HW4 := hidP (HW3.out.trans hb4)
      clear h4 hb4
      go_wp2
      exact ⟨⟨k + 1, by omega, by go_num, HB4, HW4⟩, by simp [RowKit.intOf]; omega⟩
    · obtain rfl : k = l.length := by omega
      have hB' := HB.out
      rw [List.take_length] at hB'
      go_wp2_with fail
      refine (Any.Builder_String_any Try.lays169 Try.Builder_Extra_169 w1.heap.size w1.heap.size _ wr hB' hBw).mono ?_
      rintro e w5 ⟨rfl, hb5⟩
      have HB5 := hidP (HW.out.trans hb5)
      clear hb5 hB'
      go_wp2
      go_ret2
      exact ⟨rfl, HF.out.trans (fr_of_below HB5.out) (fun b o ⟨_, h, _⟩ => by simp at h)⟩
end Go.Proofs.Ytaaopphbgbbedaa
/- LayoutRows: its function. -/
namespace Go.Proofs.Ytaaopphbgbbedaa
open Go Go.Lift
set_option maxHeartbeats 4000000
set_option linter.unusedSimpArgs false
set_option linter.unusedVariables false
attribute [local irreducible] WK IL IP IG IW DW

def nxt (r : Rw) : Nat := r.2.1 + if r.2.2 then 1 else 0
def Ch (w : Nat) : Nat → List Rw → Nat → Prop
  | a, [], b => a = b
  | a, r :: l, b => r.1 = a ∧ r.1 ≤ r.2.1 ∧ r.2.1 ≤ r.1 + w ∧ Ch w (nxt r) l b
theorem Ch.app {w : Nat} : ∀ {l : List Rw} {a b c : Nat} {l2 : List Rw}, Ch w a l b → Ch w b l2 c → Ch w a (l ++ l2) c
  | [], a, b, c, l2, h, h2 => by rw [Ch] at h; subst h; exact h2
  | r :: l, a, b, c, l2, h, h2 => ⟨h.1, h.2.1, h.2.2.1, Ch.app h.2.2.2 h2⟩
theorem rowsL_ch (w : Nat) (hw : 1 ≤ w) (e : Bool) : ∀ (f a : Nat) (l : List UInt8), l.length ≤ f → Ch w a (rowsL w e f a l) (a + l.length + if e then 1 else 0)
  | 0, a, l, h => by
    unfold rowsL
    refine ⟨rfl, by simp, by simp only; omega, ?_⟩
    cases e <;> simp [Ch, nxt]
  | f + 1, a, l, h => by
    unfold rowsL
    split
    · refine ⟨rfl, by simp, by simp only; omega, ?_⟩
      cases e <;> simp [Ch, nxt]
    · rename_i hl
      have hp := cutN_pos l w hw hl
      have hc := cutN_le l w
      have ih := rowsL_ch w hw e f (a + cutN l w) (l.drop (cutN l w)) (by rw [List.length_drop]; omega)
      rw [List.length_drop, show a + cutN l w + (l.length - cutN l w) = a + l.length by omega] at ih
      exact ⟨rfl, by simp, by simp only; omega, ih⟩
theorem rowsL_cnt (w : Nat) (hw : 1 ≤ w) (e : Bool) : ∀ (f a : Nat) (l : List UInt8), (rowsL w e f a l).length ≤ l.length + 1
  | 0, a, l => by simp [rowsL]
  | f + 1, a, l => by
    unfold rowsL
    split
    · simp
    · rename_i hl
      have hp := cutN_pos l w hw hl
      have hc := cutN_le l w
      have ih := rowsL_cnt w hw e f (a + cutN l w) (l.drop (cutN l w))
      rw [List.length_drop] at ih
      rw [List.length_cons]; omega
theorem rowsA_ch (w : Nat) (hw : 1 ≤ w) : ∀ (n : Nat) (t : List UInt8) (a : Nat), t.length < n → Ch w a (rowsA w a (linesOf t)) (a + t.length) ∧ (rowsA w a (linesOf t)).length ≤ t.length + 1
  | 0, t, a, hn => by omega
  | n + 1, t, a, hn => by
    rcases cut_nl t with ⟨_, hno⟩ | ⟨p, q, ht, hno, _⟩
    · rw [linesOf_no t hno, rowsA, rowsA, List.append_nil]
      exact ⟨by simpa using rowsL_ch w hw false t.length a t (Nat.le_refl _), rowsL_cnt _ hw _ _ _ _⟩
    · have hl : t.length = p.length + (q.length + 1) := by rw [ht]; simp
      have hqe : (linesOf q).isEmpty = false := by rw [linesOf_eta]; rfl
      obtain ⟨i1, i2⟩ := rowsA_ch w hw n q (a + p.length + 1) (by omega)
      have h1 := rowsL_ch w hw true p.length a p (Nat.le_refl _)
      have h2 := rowsL_cnt w hw true p.length a p
      rw [ht, linesOf_cut p q hno, rowsA, hqe]
      refine ⟨?_, by rw [List.length_append, Bool.not_false, ← ht, hl]; omega⟩
      rw [Bool.not_false, ← ht, hl, show a + (p.length + (q.length + 1)) = a + p.length + 1 + q.length by omega]
      exact h1.app i1
theorem showR_len (s : List UInt8) : ∀ l : List Rw, (showR s l).length ≤ l.length * (s.length + 1)
  | [] => by simp [showR]
  | r :: l => by
    have ih := showR_len s l
    have : showR s (r :: l) = ((s.drop r.1).take (r.2.1 - r.1) ++ [10]) ++ showR s l := by simp [showR]
    rw [this, List.length_append, List.length_append, List.length_take, List.length_drop, List.length_cons, List.length_cons, List.length_nil, Nat.add_mul]
    omega
theorem showT_len (s : List UInt8) (w : Nat) (hw : 1 ≤ w) (hs : s.length ≤ 500) (k : Nat) : (showR s ((rowsT w s).take k)).length ≤ 300000 := by
  have h1 := showR_len s ((rowsT w s).take k)
  have h2 := (rowsA_ch w hw (s.length + 1) s 0 (by omega)).2
  have h3 : ((rowsT w s).take k).length ≤ 501 := by unfold rowsT; rw [List.length_take]; omega
  have h4 : ((rowsT w s).take k).length * (s.length + 1) ≤ 501 * 501 := Nat.mul_le_mul h3 (by omega)
  omega
theorem show_call (s : List UInt8) (w : Nat) (hw : 1 ≤ w) (hw2 : (w : Int) ≤ 9223372036854775807) (hs : s.length ≤ 500) :
    SCall Try.prog 6 [.v (.string ⟨s.toArray⟩), .v (.int .i64 w)] (.tup [.v (.string ⟨(showR s (rowsT w s)).toArray⟩), .v (.int .i64 0)]) [.v (.string ⟨s.toArray⟩), .v (.int .i64 w)] :=
  SCall.of_kit (xs := [.string ⟨s.toArray⟩, .int .i64 w]) (BRv.tup [.string ⟨(showR s (rowsT w s)).toArray⟩, .int .i64 0]) fun W =>
    show_calls s w hw hw2 (by omega) (fun k => Nat.le_trans (showT_len s w hw hs k) (by decide)) W
theorem show_zero (s : List UInt8) (w : Int) (hw : w < 1) : SCall Try.prog 6 [.v (.string ⟨s.toArray⟩), .v (.int .i64 w)] (.tup [.v (.string ⟨#[]⟩), .v (.int .i64 10)]) [.v (.string ⟨s.toArray⟩), .v (.int .i64 w)] := by
  have hrw := rows_zero s w hw
  refine SCall.of_body' (TT := TT) (fun _ => false) [false, false] ttok Try.func6 rfl (Nat.le_of_ble_eq_true rfl) rfl fun fx hfx => WK.top ?_
  simp only [impl, imp, argT, List.append_nil, List.map_nil, List.nil_append, show Try.f6.ntmps = 36 from rfl, Nat.zero_add, Nat.reduceAdd]
  repeat' (first | refine WK.seq ?_ | refine WK.reg ?_ | refine IL.nil ?_ | refine WK.skip ?_ | refine WK.block ?_ | refine WK.exit_here ?_ | refine WK.e1 ?_ | refine WK.e2 ?_ | (with_reducible refine IL.wr ?_ ?_; focus exact cW) | refine IL.sg ttok ?_ | refine IL.cS ttok ent5 [.bor, .bor] false ?_ (hS := by exact hrw) | (refine WK.cn (fun h => ?_) (fun h => ?_); all_goals first | (simp only [reduceCtorEq] at h; done) | (simp only [hsA, hsD, hsE, ne_eq] at h; first | done | (exfalso; omega; done) | skip) | skip))
  all_goals try ((first | refine WK.ret ⟨.inr rfl, ?_⟩ | refine ⟨.inl rfl, ?_⟩ | refine ⟨.inl trivial, ?_⟩); refine Fin.o ?_ ?_ (h1 := by first | rfl | (simp only [go_sem, show Try.f6.results.toList = [.tmp 4, .tmp 5] from rfl, reduceIte] <;> rfl)); rotate_left 1; (focus (first | rfl | skip)); all_goals try with_reducible rfl)
  all_goals skip
theorem anchor35 : SCall Try.prog 4 [] (.v (.bool true)) [] := by
  have hsw := show_call [97, 98, 32, 99, 100, 101, 102, 103, 104] 4 (by decide) (by decide) (by decide)
  rw [show showR [97, 98, 32, 99, 100, 101, 102, 103, 104] (rowsT 4 [97, 98, 32, 99, 100, 101, 102, 103, 104]) = [97, 98, 32, 10, 99, 100, 101, 102, 10, 103, 104, 10] by decide] at hsw
  refine SCall.of_body' (TT := TT) (fun _ => false) [] ttok Try.func4 rfl (Nat.le_of_ble_eq_true rfl) rfl fun fx hfx => WK.top ?_
  simp only [impl, imp, argT, List.append_nil, List.map_nil, List.nil_append, show Try.f4.ntmps = 13 from rfl, Nat.zero_add, Nat.reduceAdd]
  repeat' (first | refine WK.seq ?_ | refine WK.reg ?_ | refine IL.nil ?_ | (with_reducible refine IL.wr ?_ ?_; focus exact cW) | refine IL.sg ttok ?_ | refine IL.nn ?_ | refine IL.cS ttok ent6 [.bor, .bor] true ?_ (hS := by exact hsw) | (((first | refine IL.ag (fun h => ?_) (fun h => ?_) | refine IL.ap (fun h => ?_) (fun h => ?_)); (fail_if_success (focus (simp only [reduceCtorEq] at h)))); all_goals first | (simp only [reduceCtorEq] at h; done) | (simp only [hsA, hsD, hsE, ne_eq] at h; first | done | (exfalso; omega; done) | skip) | skip))
  all_goals try ((first | refine WK.ret ⟨.inr rfl, ?_⟩ | refine ⟨.inl rfl, ?_⟩ | refine ⟨.inl trivial, ?_⟩); refine Fin.o ?_ ?_ (h1 := by first | rfl | (simp only [go_sem, show Try.f4.results.toList = [.tmp 0] from rfl, reduceIte] <;> rfl)); rotate_left 1; (focus (first | rfl | skip)); all_goals try with_reducible rfl)
  all_goals rfl
end Go.Proofs.Ytaaopphbgbbedaa
/- LayoutRows: its function. -/
namespace Go.Proofs.Ytaaopphbgbbedaa
open Go Go.Lift
set_option maxHeartbeats 4000000
set_option linter.unusedSimpArgs false
set_option linter.unusedVariables false
attribute [local irreducible] WK IL IP IG IW DW

theorem layoutRows_call (s : List UInt8) (w : Int) (hw2 : -9223372036854775808 ≤ w ∧ w ≤ 9223372036854775807) (hs0 : s.length ≤ 9223372036854775807) :
    SCall Try.prog 3 [.v (.string ⟨s.toArray⟩), .v (.int .i64 w)] (.v (.bool true)) [.v (.string ⟨s.toArray⟩), .v (.int .i64 w)] := by
  by_cases hs : s.length ≤ 500
  rotate_left
  · refine SCall.of_body' (TT := TT) (fun _ => false) [false, false] ttok Try.func3 rfl (Nat.le_of_ble_eq_true rfl) rfl fun fx hfx => WK.top ?_
    simp only [impl, imp, argT, List.append_nil, List.map_nil, List.nil_append, show Try.f3.ntmps = 119 from rfl, Nat.zero_add, Nat.reduceAdd]
    repeat' (first | refine WK.seq ?_ | refine WK.reg ?_ | refine IL.nil ?_ | refine WK.skip ?_ | refine WK.block ?_ | refine WK.exit_here ?_ | refine WK.e1 ?_ | refine WK.e2 ?_ | refine WK.drawnS (id := 16) mixed [] [] [] [] (by decide +kernel) ?_ | refine DW.nil ?_ | (with_reducible refine IL.wr ?_ ?_; focus exact cW) | (with_reducible refine DW.wr ?_ ?_; focus exact cW) | refine IL.sg ttok ?_ | refine IL.nn ?_ | refine DW.re ttok ?_ | refine DW.rm ttok ?_ | refine DW.nn ?_ | refine DW.nb ?_ | refine IL.cS ttok ent4 [] true ?_ (hS := by exact anchor35) | refine IL.cS ttok ent5 [.bor, .bor] false ?_ (hS := by exact hrw) | refine IL.cS ttok ent6 [.bor, .bor] true ?_ (hS := by exact hsw) | refine IL.cS ttok ent7 [.bor, .bor] false ?_ (hS := by exact hdw) | ((first | ((first | refine IL.ag (fun h => ?_) (fun h => ?_) | refine DW.ag (fun h => ?_) (fun h => ?_) | refine IL.ap (fun h => ?_) (fun h => ?_) | refine DW.ap (fun h => ?_) (fun h => ?_)); (fail_if_success (focus (simp only [reduceCtorEq] at h)))) | refine WK.cn (fun h => ?_) (fun h => ?_)); all_goals first | (simp only [reduceCtorEq] at h; done) | (simp only [hsA, hsD, hsE, ne_eq] at h; first | done | (exfalso; omega; done) | skip) | skip))
    all_goals try ((first | refine WK.ret ⟨.inr rfl, ?_⟩ | refine ⟨.inl rfl, ?_⟩ | refine ⟨.inl trivial, ?_⟩); refine Fin.o ?_ ?_ (h1 := by first | rfl | (simp only [go_sem, show Try.f3.results.toList = [.tmp 4] from rfl, reduceIte] <;> rfl)); rotate_left 1; (focus (first | rfl | skip)); all_goals try with_reducible rfl)
    all_goals skip
  by_cases hw : w < 1
  · have hrw := SCall.frz (rows_zero s w hw) rfl
    simp only [frzR, frzRl] at hrw
    have hsw := show_zero s w hw
    have he : ((ByteArray.mk #[]).toList == (ByteArray.mk #[]).toList) = true := beq_self_eq_true _
    refine SCall.of_body' (TT := TT) (fun _ => false) [false, false] ttok Try.func3 rfl (Nat.le_of_ble_eq_true rfl) rfl fun fx hfx => WK.top ?_
    simp only [impl, imp, argT, List.append_nil, List.map_nil, List.nil_append, show Try.f3.ntmps = 119 from rfl, Nat.zero_add, Nat.reduceAdd]
    have FX := he
    repeat' (first | refine WK.seq ?_ | refine WK.reg ?_ | refine IL.nil ?_ | refine WK.skip ?_ | refine WK.block ?_ | refine WK.exit_here ?_ | refine WK.e1 ?_ | refine WK.e2 ?_ | refine WK.drawnS (id := 16) mixed [] [] [] [] (by decide +kernel) ?_ | refine DW.nil ?_ | (with_reducible refine IL.wr ?_ ?_; focus exact cW) | (with_reducible refine DW.wr ?_ ?_; focus exact cW) | refine IL.sgF ttok ?_ | refine IL.nn ?_ | refine DW.reF ttok ?_ | refine DW.rmF ttok ?_ | refine DW.nn ?_ | refine DW.nb ?_ | refine IL.cSF ttok ent4 [] true ?_ (hS := by exact anchor35) | refine IL.cSF ttok ent5 [.bor, .bor] false ?_ (hS := by exact hrw) | refine IL.cSF ttok ent6 [.bor, .bor] true ?_ (hS := by exact hsw) | refine IL.cSF ttok ent7 [.bor, .bor] false ?_ (hS := by exact hdw) | ((first | ((first | refine IL.ag (fun h => ?_) (fun h => ?_) | refine DW.ag (fun h => ?_) (fun h => ?_) | refine IL.ap (fun h => ?_) (fun h => ?_) | refine DW.ap (fun h => ?_) (fun h => ?_)); (fail_if_success (focus (simp only [reduceCtorEq] at h)))) | refine WK.cn (fun h => ?_) (fun h => ?_)); all_goals first | (simp only [reduceCtorEq] at h; done) | (simp only [hsA, hsD, hsE, ne_eq] at h; first | done | (exfalso; omega; done) | skip) | skip))
    all_goals try ((first | refine WK.ret ⟨.inr rfl, ?_⟩ | refine ⟨.inl rfl, ?_⟩ | refine ⟨.inl trivial, ?_⟩); refine Fin.o ?_ ?_ (h1 := by first | rfl | (simp only [go_sem, show Try.f3.results.toList = [.tmp 4] from rfl, reduceIte] <;> rfl)); rotate_left 1; (focus (first | rfl | skip)); all_goals try with_reducible rfl)
    all_goals skip
  obtain ⟨w, rfl⟩ : ∃ u : Nat, w = (u : Int) := ⟨w.toNat, by omega⟩
  have hw1 : 1 ≤ w := by omega
  have hrw := SCall.frz (crows_call s w hw1 hw2.2 (by omega)) rfl
  have hdw := SCall.frz (drows_call s w hw1 hw2.2 (by omega)) rfl
  have hsw := show_call s w hw1 hw2.2 hs
  simp only [frzR, frzRl] at hrw hdw
  obtain ⟨hch, hcn⟩ := rowsA_ch w hw1 (s.length + 1) s 0 (by omega)
  have hin := rowsT_in w s
  have hsl := showT_len s w hw1 hs
  rw [Nat.zero_add] at hch
  change Ch w 0 (rowsT w s) s.length at hch
  change (rowsT w s).length ≤ s.length + 1 at hcn
  have hlR : (rowsT w s).length ≤ 501 := by omega
  generalize rowsT w s = R at *
  refine SCall.of_body' (TT := TT) (fun _ => false) [false, false] ttok Try.func3 rfl (Nat.le_of_ble_eq_true rfl) rfl fun fx hfx => WK.top ?_
  simp only [impl, imp, argT, List.append_nil, List.map_nil, List.nil_append, show Try.f3.ntmps = 119 from rfl, Nat.zero_add, Nat.reduceAdd]
  repeat' (first | refine WK.seq ?_ | refine WK.reg ?_ | refine IL.nil ?_ | refine WK.skip ?_ | refine WK.block ?_ | refine WK.exit_here ?_ | refine WK.e1 ?_ | refine WK.e2 ?_ | refine WK.drawnS (id := 16) mixed [] [] [] [] (by decide +kernel) ?_ | refine DW.nil ?_ | (with_reducible refine IL.wr ?_ ?_; focus exact cW) | (with_reducible refine DW.wr ?_ ?_; focus exact cW) | refine IL.sg ttok ?_ | refine IL.nn ?_ | refine DW.re ttok ?_ | refine DW.rm ttok ?_ | refine DW.nn ?_ | refine DW.nb ?_ | refine IL.cS ttok ent4 [] true ?_ (hS := by exact anchor35) | refine IL.cS ttok ent5 [.bor, .bor] false ?_ (hS := by exact hrw) | refine IL.cS ttok ent6 [.bor, .bor] true ?_ (hS := by exact hsw) | refine IL.cS ttok ent7 [.bor, .bor] false ?_ (hS := by exact hdw) | ((first | ((first | refine IL.ag (fun h => ?_) (fun h => ?_) | refine DW.ag (fun h => ?_) (fun h => ?_) | refine IL.ap (fun h => ?_) (fun h => ?_) | refine DW.ap (fun h => ?_) (fun h => ?_)); (fail_if_success (focus (simp only [reduceCtorEq] at h)))) | refine WK.cn (fun h => ?_) (fun h => ?_)); all_goals first | (simp only [reduceCtorEq] at h; done) | (simp only [hsA, hsD, hsE, ne_eq] at h; first | done | (exfalso; omega; done) | skip) | skip))
  refine WK.whileS (α := Nat × Nat) (fun x => R.length - x.1) (fun x => x.1 ≤ R.length ∧ Ch w x.2 (R.drop x.1) s.length)
    (fun x => ⟨119, [(0, .v (.string ⟨s.toArray⟩)), (1, .v (.int .i64 w)), (7, .v (.string ⟨(showR s R).toArray⟩)), (9, .tr R.length (encs rwC R)), (10, .v (.string ⟨(showR s (R.take x.1)).toArray⟩)), (11, .v (.int .i64 x.2)), (66, .tr R.length (encs rwC R)), (67, .v (.int .i64 R.length)), (68, .v (.int .i64 x.1))], []⟩) (0, 0) ⟨⟨Nat.zero_le _, by simpa using hch⟩, ?_⟩ ?_
  · rw [List.take_zero, show showR s [] = [] from rfl]
    (refine Weak.renS [] hfx rfl ?_ ?_ rfl <;> (simp only [go_sem, reduceIte, exists_eq_left', exists_eq_left, Blk.mk.injEq] <;> (try and_intros) <;> first | rfl | omega))
  rintro ⟨k, a⟩ ⟨hk, hc⟩
  simp only at hk hc ⊢
  by_cases hkl : k < R.length
  · have hx : R[k]? = some R[k] := List.getElem?_eq_getElem hkl
    have hd : R.drop k = R[k] :: R.drop (k + 1) := List.drop_eq_getElem_cons hkl
    have hat : ((encs rwC R).drop (k * 3)).take 3 = rwC R[k] := encs_at rwC_length hx
    have hle : k * 3 + 3 ≤ R.length * 3 := by omega
    have hne : encs rwC R ≠ [] := encs_ne rwC_length (by decide) hx
    have hri := hin _ (List.getElem_mem hkl)
    have hsn := showR_snoc s (R.take k) R[k]
    rw [show R.take k ++ [R[k]] = R.take (k + 1) by rw [List.take_add_one, hx]; rfl] at hsn
    have hl1 := hsl (k + 1)
    rw [hsn] at hl1
    simp only [List.length_append, List.length_cons, List.length_nil] at hl1
    rw [hd] at hc
    obtain ⟨c1, c2, c3, c4⟩ := hc
    clear hx hd hch hsl hin
    generalize R[k] = r at *
    obtain ⟨f, t, e⟩ := r
    simp only at hri c1 c2 c3 c4 hsn hl1
    subst c1
    simp only [rwC] at hat
    have hap := ba_append (showR s (R.take k)) ((s.drop f).take (t - f) ++ [10])
    have hap2 := ba_append ((s.drop f).take (t - f)) [10]
    rw [← hsn] at hap
    have hw3 : IntKind.i64.wrap ((t : Int) - (f : Int)) = (t : Int) - (f : Int) := wrap_i64 (by omega) (by omega)
    have hlt : ((s.drop f).take (t - f)).length ≤ 500 := by rw [List.length_take, List.length_drop]; omega
    generalize showR s (R.take k) = acc at *
    have hq1 : ((s.drop f).take (t - f)).length + (0 + 1) ≤ 9223372036854775807 := by omega
    have hq2 : acc.length + (((s.drop f).take (t - f)).length + (0 + 1)) ≤ 9223372036854775807 := by omega
    cases e with
    | false =>
      repeat' (first | refine WK.seq ?_ | refine WK.reg ?_ | refine IL.nil ?_ | refine WK.skip ?_ | refine WK.block ?_ | refine WK.exit_here ?_ | refine WK.e1 ?_ | refine WK.e2 ?_ | refine WK.drawnS (id := 16) mixed [] [] [] [] (by decide +kernel) ?_ | refine DW.nil ?_ | (with_reducible refine IL.wr ?_ ?_; focus exact cW) | (with_reducible refine DW.wr ?_ ?_; focus exact cW) | refine IL.sg ttok ?_ (h := by intro K hK; simp only [go_sem, reduceIte, hat, hle, hw3, hap2, hap, hq1, hq2, ba_size, List.length_cons, List.length_nil, List.length_append]; exact cK hK) | refine IL.nn ?_ | refine DW.re ttok ?_ (h := by intro K hK; simp only [go_sem, reduceIte, hat, hle, hw3, hap2, hap, hq1, hq2, ba_size, List.length_cons, List.length_nil, List.length_append]; exact cK hK) | refine DW.rm ttok ?_ (h := by intro K hK; simp only [go_sem, reduceIte, hat, hle, hw3, hap2, hap, hq1, hq2, ba_size, List.length_cons, List.length_nil, List.length_append]; exact cK hK) | refine DW.nn ?_ | refine DW.nb ?_ | refine IL.cS ttok ent4 [] true ?_ (hA := by first | rfl | (simp only [go_sem, reduceIte, hat, hle, hw3, hap2, hap, hq1, hq2, ba_size, List.length_cons, List.length_nil, List.length_append] <;> rfl)) (hS := by exact anchor35) (hi := by first | rfl | (simp only [go_sem, reduceIte, hat, hle, hw3, hap2, hap, hq1, hq2, ba_size, List.length_cons, List.length_nil, List.length_append] <;> rfl)) (hK := by intro K hK; simp only [go_sem, reduceIte, hat, hle, hw3, hap2, hap, hq1, hq2, ba_size, List.length_cons, List.length_nil, List.length_append]; exact cK hK) | refine IL.cS ttok ent5 [.bor, .bor] false ?_ (hA := by first | rfl | (simp only [go_sem, reduceIte, hat, hle, hw3, hap2, hap, hq1, hq2, ba_size, List.length_cons, List.length_nil, List.length_append] <;> rfl)) (hS := by exact hrw) (hi := by first | rfl | (simp only [go_sem, reduceIte, hat, hle, hw3, hap2, hap, hq1, hq2, ba_size, List.length_cons, List.length_nil, List.length_append] <;> rfl)) (hK := by intro K hK; simp only [go_sem, reduceIte, hat, hle, hw3, hap2, hap, hq1, hq2, ba_size, List.length_cons, List.length_nil, List.length_append]; exact cK hK) | refine IL.cS ttok ent6 [.bor, .bor] true ?_ (hA := by first | rfl | (simp only [go_sem, reduceIte, hat, hle, hw3, hap2, hap, hq1, hq2, ba_size, List.length_cons, List.length_nil, List.length_append] <;> rfl)) (hS := by exact hsw) (hi := by first | rfl | (simp only [go_sem, reduceIte, hat, hle, hw3, hap2, hap, hq1, hq2, ba_size, List.length_cons, List.length_nil, List.length_append] <;> rfl)) (hK := by intro K hK; simp only [go_sem, reduceIte, hat, hle, hw3, hap2, hap, hq1, hq2, ba_size, List.length_cons, List.length_nil, List.length_append]; exact cK hK) | refine IL.cS ttok ent7 [.bor, .bor] false ?_ (hA := by first | rfl | (simp only [go_sem, reduceIte, hat, hle, hw3, hap2, hap, hq1, hq2, ba_size, List.length_cons, List.length_nil, List.length_append] <;> rfl)) (hS := by exact hdw) (hi := by first | rfl | (simp only [go_sem, reduceIte, hat, hle, hw3, hap2, hap, hq1, hq2, ba_size, List.length_cons, List.length_nil, List.length_append] <;> rfl)) (hK := by intro K hK; simp only [go_sem, reduceIte, hat, hle, hw3, hap2, hap, hq1, hq2, ba_size, List.length_cons, List.length_nil, List.length_append]; exact cK hK) | ((first | ((first | refine IL.ag (fun h => ?_) (fun h => ?_) | refine DW.ag (fun h => ?_) (fun h => ?_) | refine IL.ap (fun h => ?_) (fun h => ?_) | refine DW.ap (fun h => ?_) (fun h => ?_)); (fail_if_success (focus (simp only [reduceCtorEq] at h)))) | refine WK.cn (fun h => ?_) (fun h => ?_)); all_goals first | (simp only [reduceCtorEq] at h; done) | (simp only [hsA, hsD, hsE, ne_eq] at h; first | done | (exfalso; omega; done) | skip) | skip))
      refine ⟨(k + 1, t), by simp only; omega, ⟨by simp only; omega, by simpa [nxt] using c4⟩, ?_⟩
      (refine Weak.renS [] hfx rfl ?_ ?_ rfl <;> (simp only [go_sem, reduceIte, exists_eq_left', exists_eq_left, Blk.mk.injEq, hap2, hap] <;> (try and_intros) <;> first | rfl | omega))
    | true =>
      repeat' (first | refine WK.seq ?_ | refine WK.reg ?_ | refine IL.nil ?_ | refine WK.skip ?_ | refine WK.block ?_ | refine WK.exit_here ?_ | refine WK.e1 ?_ | refine WK.e2 ?_ | refine WK.drawnS (id := 16) mixed [] [] [] [] (by decide +kernel) ?_ | refine DW.nil ?_ | (with_reducible refine IL.wr ?_ ?_; focus exact cW) | (with_reducible refine DW.wr ?_ ?_; focus exact cW) | refine IL.sg ttok ?_ (h := by intro K hK; simp only [go_sem, reduceIte, hat, hle, hw3, hap2, hap, hq1, hq2, ba_size, List.length_cons, List.length_nil, List.length_append]; exact cK hK) | refine IL.nn ?_ | refine DW.re ttok ?_ (h := by intro K hK; simp only [go_sem, reduceIte, hat, hle, hw3, hap2, hap, hq1, hq2, ba_size, List.length_cons, List.length_nil, List.length_append]; exact cK hK) | refine DW.rm ttok ?_ (h := by intro K hK; simp only [go_sem, reduceIte, hat, hle, hw3, hap2, hap, hq1, hq2, ba_size, List.length_cons, List.length_nil, List.length_append]; exact cK hK) | refine DW.nn ?_ | refine DW.nb ?_ | refine IL.cS ttok ent4 [] true ?_ (hA := by first | rfl | (simp only [go_sem, reduceIte, hat, hle, hw3, hap2, hap, hq1, hq2, ba_size, List.length_cons, List.length_nil, List.length_append] <;> rfl)) (hS := by exact anchor35) (hi := by first | rfl | (simp only [go_sem, reduceIte, hat, hle, hw3, hap2, hap, hq1, hq2, ba_size, List.length_cons, List.length_nil, List.length_append] <;> rfl)) (hK := by intro K hK; simp only [go_sem, reduceIte, hat, hle, hw3, hap2, hap, hq1, hq2, ba_size, List.length_cons, List.length_nil, List.length_append]; exact cK hK) | refine IL.cS ttok ent5 [.bor, .bor] false ?_ (hA := by first | rfl | (simp only [go_sem, reduceIte, hat, hle, hw3, hap2, hap, hq1, hq2, ba_size, List.length_cons, List.length_nil, List.length_append] <;> rfl)) (hS := by exact hrw) (hi := by first | rfl | (simp only [go_sem, reduceIte, hat, hle, hw3, hap2, hap, hq1, hq2, ba_size, List.length_cons, List.length_nil, List.length_append] <;> rfl)) (hK := by intro K hK; simp only [go_sem, reduceIte, hat, hle, hw3, hap2, hap, hq1, hq2, ba_size, List.length_cons, List.length_nil, List.length_append]; exact cK hK) | refine IL.cS ttok ent6 [.bor, .bor] true ?_ (hA := by first | rfl | (simp only [go_sem, reduceIte, hat, hle, hw3, hap2, hap, hq1, hq2, ba_size, List.length_cons, List.length_nil, List.length_append] <;> rfl)) (hS := by exact hsw) (hi := by first | rfl | (simp only [go_sem, reduceIte, hat, hle, hw3, hap2, hap, hq1, hq2, ba_size, List.length_cons, List.length_nil, List.length_append] <;> rfl)) (hK := by intro K hK; simp only [go_sem, reduceIte, hat, hle, hw3, hap2, hap, hq1, hq2, ba_size, List.length_cons, List.length_nil, List.length_append]; exact cK hK) | refine IL.cS ttok ent7 [.bor, .bor] false ?_ (hA := by first | rfl | (simp only [go_sem, reduceIte, hat, hle, hw3, hap2, hap, hq1, hq2, ba_size, List.length_cons, List.length_nil, List.length_append] <;> rfl)) (hS := by exact hdw) (hi := by first | rfl | (simp only [go_sem, reduceIte, hat, hle, hw3, hap2, hap, hq1, hq2, ba_size, List.length_cons, List.length_nil, List.length_append] <;> rfl)) (hK := by intro K hK; simp only [go_sem, reduceIte, hat, hle, hw3, hap2, hap, hq1, hq2, ba_size, List.length_cons, List.length_nil, List.length_append]; exact cK hK) | ((first | ((first | refine IL.ag (fun h => ?_) (fun h => ?_) | refine DW.ag (fun h => ?_) (fun h => ?_) | refine IL.ap (fun h => ?_) (fun h => ?_) | refine DW.ap (fun h => ?_) (fun h => ?_)); (fail_if_success (focus (simp only [reduceCtorEq] at h)))) | refine WK.cn (fun h => ?_) (fun h => ?_)); all_goals first | (simp only [reduceCtorEq] at h; done) | (simp only [hsA, hsD, hsE, ne_eq] at h; first | done | (exfalso; omega; done) | skip) | skip))
      refine ⟨(k + 1, t + 1), by simp only; omega, ⟨by simp only; omega, by simpa [nxt] using c4⟩, ?_⟩
      (refine Weak.renS [] hfx rfl ?_ ?_ rfl <;> (simp only [go_sem, reduceIte, exists_eq_left', exists_eq_left, Blk.mk.injEq, hap2, hap] <;> (try and_intros) <;> first | rfl | omega))
  · obtain rfl : k = R.length := by omega
    have hdn : R.drop R.length = [] := by simp
    rw [hdn, Ch] at hc
    subst hc
    rw [List.take_length]
    have he : ((ByteArray.mk (showR s R).toArray).toList == (ByteArray.mk (showR s R).toArray).toList) = true := beq_self_eq_true _
    have FX := he
    repeat' (first | refine WK.seq ?_ | refine WK.reg ?_ | refine IL.nil ?_ | refine WK.skip ?_ | refine WK.block ?_ | refine WK.exit_here ?_ | refine WK.e1 ?_ | refine WK.e2 ?_ | refine WK.drawnS (id := 16) mixed [] [] [] [] (by decide +kernel) ?_ | refine DW.nil ?_ | (with_reducible refine IL.wr ?_ ?_; focus exact cW) | (with_reducible refine DW.wr ?_ ?_; focus exact cW) | refine IL.sgF ttok ?_ | refine IL.nn ?_ | refine DW.reF ttok ?_ | refine DW.rmF ttok ?_ | refine DW.nn ?_ | refine DW.nb ?_ | refine IL.cSF ttok ent4 [] true ?_ (hS := by exact anchor35) | refine IL.cSF ttok ent5 [.bor, .bor] false ?_ (hS := by exact hrw) | refine IL.cSF ttok ent6 [.bor, .bor] true ?_ (hS := by exact hsw) | refine IL.cSF ttok ent7 [.bor, .bor] false ?_ (hS := by exact hdw) | ((first | ((first | refine IL.ag (fun h => ?_) (fun h => ?_) | refine DW.ag (fun h => ?_) (fun h => ?_) | refine IL.ap (fun h => ?_) (fun h => ?_) | refine DW.ap (fun h => ?_) (fun h => ?_)); (fail_if_success (focus (simp only [reduceCtorEq] at h)))) | refine WK.cn (fun h => ?_) (fun h => ?_)); all_goals first | (simp only [reduceCtorEq] at h; done) | (simp only [hsA, hsD, hsE, ne_eq] at h; first | done | (exfalso; omega; done) | skip) | skip))
    all_goals try ((first | refine WK.ret ⟨.inr rfl, ?_⟩ | refine ⟨.inl rfl, ?_⟩ | refine ⟨.inl trivial, ?_⟩); refine Fin.o ?_ ?_ (h1 := by first | rfl | (simp only [go_sem, show Try.f3.results.toList = [.tmp 4] from rfl, reduceIte] <;> rfl)); rotate_left 1; (focus (first | rfl | skip)); all_goals try with_reducible rfl)
    all_goals skip
end Go.Proofs.Ytaaopphbgbbedaa
