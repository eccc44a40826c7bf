/- The evaluator: what an operation makes of an ideal state. -/
import Derived.Test.YthekbbgpmiogdaaLZC
import Derived.Laws.ComplexArith
namespace Go.Lift
open Go Go.RowKit

inductive TD where
  | oth
  | float
  | bool
  | str
  | slice (e : TypeId)
  | arr (n : Nat) (e : TypeId)
  | struct (fs : List (Nat × TypeId))
  deriving Inhabited
/-- a cell's zero value: a plain one, or a nil slice of e's -/
inductive ZC where
  | v (x : Value)
  | row (e : TypeId)
inductive CK where
  | complex
  | int (k : IntKind)
  | str
  | bool
structure TI where
  num : Option IntKind
  eqk : Option (List CK)
  size : Nat
  bytes : Nat
  isA : Bool
  flat : Bool
  zero : List ZC
  desc : TD
abbrev TTab := TypeId → Option TI

/-- equality of two float64s by their bits -/
def feq (a b : Nat) : Bool := FloatKind.f64.format.order a b == some .eq
def eqVals : List CK → List Value → List Value → Option Bool
  | [], [], [] => some true
  | .complex :: ks, .complex .f64 a b :: xs, .complex .f64 c d :: ys => (eqVals ks xs ys).map (fun r => (feq a c && feq b d) && r)
  | .int k :: ks, .int k' a :: xs, .int k'' b :: ys => if k' = k ∧ k'' = k then (eqVals ks xs ys).map (fun r => a == b && r) else none
  | .str :: ks, .string a :: xs, .string b :: ys => (eqVals ks xs ys).map (fun r => a.toList == b.toList && r)
  | .bool :: ks, .bool a :: xs, .bool b :: ys => (eqVals ks xs ys).map (fun r => a == b && r)
  | _, _, _ => none

theorem eqVals_complex {ks : List CK} {x y : Value} {xs ys : List Value} {r : Bool} (h : eqVals (.complex :: ks) (x :: xs) (y :: ys) = some r) : ∃ a b c d r', x = .complex .f64 a b ∧ y = .complex .f64 c d ∧ eqVals ks xs ys = some r' ∧ r = ((feq a c && feq b d) && r') := by
  cases x <;> cases y <;> try (simp [eqVals] at h; done)
  rename_i k a b k' c d
  cases k <;> cases k' <;> try (simp [eqVals] at h; done)
  rw [eqVals, Option.map_eq_some_iff] at h
  obtain ⟨r', h1, rfl⟩ := h
  exact ⟨a, b, c, d, r', rfl, rfl, h1, rfl⟩
def ZC.iv : ZC → IV
  | .v x => .v x
  | .row _ => .emp
def zOk : List ZC → List Value → Prop
  | [], ys => ys = []
  | z :: zs, ys => ∃ y ys', ys = y :: ys' ∧ (match z with | .v x => y = x ∧ x.oneCell' = true | .row _ => y = .slice none 0 0) ∧ zOk zs ys'
theorem zOk.length : ∀ {zs : List ZC} {ys : List Value}, zOk zs ys → ys.length = zs.length
  | [], ys, h => by simp [zOk] at h; subst h; rfl
  | z :: zs, ys, h => by unfold zOk at h; obtain ⟨_, ys', rfl, _, h'⟩ := h; simp [zOk.length h']
def DescOk : TD → TypeDesc → Prop
  | .oth, _ => True
  | .float, d => d = .float .f64
  | .bool, d => d = .bool
  | .str, d => d = .string
  | .slice e, d => d = .slice e
  | .arr n e, d => d = .array n e
  | .struct fs, d => ∃ gs : Array Field, d = .struct gs ∧ gs.toList.map (fun f => (f.offset, f.type)) = fs
def isAggD : TypeDesc → Bool
  | .struct _ => true
  | .array _ _ => true
  | _ => false
structure TIok (P : Program) (t : TypeId) (i : TI) : Prop where
  info : ∃ j, P.info? t = some j ∧ j.size = i.size ∧ j.bytes = i.bytes ∧ ∃ z, j.zero = some z ∧ zOk i.zero z.cells.toList
  num : ∀ k, i.num = some k → P.underlying t = some (.int k)
  zlen : i.zero.length = i.size
  pos : 0 < i.size
  desc : ∃ d, P.underlying t = some d ∧ DescOk i.desc d ∧ isAggD d = i.isA
  eqk : ∀ ks, i.eqk = some ks → P.eqGuardType P.depth t = false ∧ ∀ (w : World) (ax ay : Array Value) (r : Bool), eqVals ks ax.toList ay.toList = some r → (Op.equalIn Op.maxDepth t (.agg ax) (.agg ay)).run P w = .ok r w
def TTok (P : Program) (TT : TTab) : Prop := ∀ t i, TT t = some i → TIok P t i

/-- a constant -/
def ofS : Value → Option IV
  | .slice none 0 0 => some .emp
  | .slice _ _ _ => none
  | .pointer (some _) => none
  | .map (some _) => none
  | .chan (some _) => none
  | .func _ _ _ => none
  | .iface _ _ => none
  | .agg _ => none
  | .tuple _ => none
  | .bool b => some (.v (.bool b))
  | .int k n => some (.v (.int k n))
  | .float k b => some (.v (.float k b))
  | .complex k a b => some (.v (.complex k a b))
  | .string s => some (.v (.string s))
  | .pointer none => some (.v (.pointer none))
  | .map none => some (.v (.map none))
  | .chan none => some (.v (.chan none))
  | .nilFunc => some (.v .nilFunc)
  | .nilIface => some (.v .nilIface)
def ofSs : List Value → Option (List IV)
  | [] => some []
  | x :: xs => match ofS x, ofSs xs with
    | some y, some ys => some (y :: ys)
    | _, _ => none
def ofV : Value → Option IV
  | .agg cs => (ofSs cs.toList).map .agg
  | x => ofS x
def ev (σ : St) : Operand → Option IV
  | .tmp t => lk σ.T t
  | .const c => ofV c
  | .func f => some (.fn (.func f) [])
  | .global _ => none

def blkAt (L : List (Option Blk)) (k ver : Nat) : Option Blk :=
  match L[k]? with
  | some (some b) => if b.ver = ver then some b else none
  | _ => none

/-- numbers, texts, truth values -/
def pbin (op : BinOp) : Value → Value → Option Value
  | .int k a, .int k' b => match op with
    | .shl => if 0 ≤ b then some (.int k (k.wrap (a * 2 ^ min b.toNat k.bits))) else none
    | .shr => if 0 ≤ b then some (.int k (a.fdiv (2 ^ min b.toNat k.bits))) else none
    | .add => if k = k' then some (.int k (k.wrap (a + b))) else none
    | .sub => if k = k' then some (.int k (k.wrap (a - b))) else none
    | .mul => if k = k' then some (.int k (k.wrap (a * b))) else none
    | .quo => if k = k' then if b = 0 then none else some (.int k (k.wrap (a.tdiv b))) else none
    | .rem => if k = k' then if b = 0 then none else some (.int k (a.tmod b)) else none
    | .and => if k = k' then some (.int k (bits .and k a b)) else none
    | .or => if k = k' then some (.int k (bits .or k a b)) else none
    | .xor => if k = k' then some (.int k (bits .xor k a b)) else none
    | .andNot => if k = k' then some (.int k (bits .andNot k a b)) else none
    | .eql => if k = k' then some (.bool (a == b)) else none
    | .neq => if k = k' then some (.bool (a != b)) else none
    | .lss => if k = k' then some (.bool (a < b)) else none
    | .leq => if k = k' then some (.bool (a ≤ b)) else none
    | .gtr => if k = k' then some (.bool (a > b)) else none
    | .geq => if k = k' then some (.bool (a ≥ b)) else none
  | .string a, .string b => match op with
    | .add => if a.size + b.size ≤ 9223372036854775807 then some (.string (a ++ b)) else none
    | .eql => some (.bool (a.toList == b.toList))
    | .neq => some (.bool (!(a.toList == b.toList)))
    | .lss => some (.bool (Op.bytesLess a.toList b.toList))
    | .leq => some (.bool (Op.bytesLess a.toList b.toList || a.toList == b.toList))
    | .gtr => some (.bool (!(Op.bytesLess a.toList b.toList || a.toList == b.toList)))
    | .geq => some (.bool (!(Op.bytesLess a.toList b.toList)))
    | _ => none
  | .complex .f64 a b, .complex .f64 c d => match op with
    | .add => (cSumBits .add .f64 a b c d).map fun p => .complex .f64 p.1 p.2
    | .sub => (cSumBits .sub .f64 a b c d).map fun p => .complex .f64 p.1 p.2
    | .mul => (cMulBits a b c d).map fun p => .complex .f64 p.1 p.2
    | .eql => some (.bool (feq a c && feq b d))
    | .neq => some (.bool (!(feq a c && feq b d)))
    | _ => none
  | .float .f64 a, .float .f64 b => match op with
    | .add => (floatBits .add .f64 a b).map (.float .f64 ·)
    | .sub => (floatBits .sub .f64 a b).map (.float .f64 ·)
    | .mul => (floatBits .mul .f64 a b).map (.float .f64 ·)
    | .eql => some (.bool (FloatKind.f64.format.order a b == some .eq))
    | .neq => some (.bool (FloatKind.f64.format.order a b != some .eq))
    | .lss => some (.bool (FloatKind.f64.format.order a b == some .lt))
    | .leq => some (.bool (FloatKind.f64.format.order a b == some .lt || FloatKind.f64.format.order a b == some .eq))
    | .gtr => some (.bool (FloatKind.f64.format.order a b == some .gt))
    | .geq => some (.bool (FloatKind.f64.format.order a b == some .gt || FloatKind.f64.format.order a b == some .eq))
    | _ => none
  | _, _ => none
def pboolEq (op : BinOp) (a b : Bool) : Option Value :=
  match op with
  | .eql => some (.bool (a == b))
  | .neq => some (.bool (!(a == b)))
  | _ => none
/-- the lesser, the greater of two float64s -/
def fmin (a b : Nat) : Option Nat :=
  match FloatKind.f64.format.order a b with
  | some .lt => some a
  | some .gt => some b
  | some .eq => some (if (FloatKind.f64.decode a).neg = true then a else b)
  | none => none
def fmax (a b : Nat) : Option Nat :=
  match FloatKind.f64.format.order a b with
  | some .lt => some b
  | some .gt => some a
  | some .eq => some (if (FloatKind.f64.decode a).neg = true then b else a)
  | none => none
def pun (op : UnOp) : Value → Option Value
  | .int k n => match op with
    | .neg => some (.int k (k.wrap (0 - n)))
    | .xor => some (.int k (bits .xor k (if k.signed then -1 else k.max) n))
    | _ => none
  | .bool b => match op with
    | .not => some (.bool (!b))
    | _ => none
  | .float k b => match op with
    | .neg => some (.float k (Op.negFloat k b))
    | _ => none
  | .complex k a b => match op with
    | .neg => some (.complex k (Op.negFloat k a) (Op.negFloat k b))
    | _ => none
  | _ => none
/-- equality of structs' cells, cell by cell -/
def eqCells : List CK → List IV → List IV → Option Bool
  | [], [], [] => some true
  | .complex :: ks, .v (.complex .f64 a b) :: xs, .v (.complex .f64 c d) :: ys => (eqCells ks xs ys).map (fun r => (feq a c && feq b d) && r)
  | .int k :: ks, .v (.int k' a) :: xs, .v (.int k'' b) :: ys => if k' = k ∧ k'' = k then (eqCells ks xs ys).map (fun r => a == b && r) else none
  | .str :: ks, .v (.string a) :: xs, .v (.string b) :: ys => (eqCells ks xs ys).map (fun r => a.toList == b.toList && r)
  | .bool :: ks, .v (.bool a) :: xs, .v (.bool b) :: ys => (eqCells ks xs ys).map (fun r => a == b && r)
  | _, _, _ => none
/-- cells of a value -/
def cellsOf : IV → List IV
  | .agg cs => cs
  | x => [x]
def isScalar : IV → Bool
  | .v x => x.oneCell'
  | .emp => true
  | .tr _ _ => true
  | .sl _ _ _ _ => true
  | .ptr _ _ _ => true
  | .fn _ _ => true
  | _ => false
def isCell : IV → Bool
  | .agg _ => true
  | v => isScalar v
/-- what goes into a row: nothing that leads to the frame's own blocks -/
def isTree : IV → Bool
  | .v x => x.oneCell'
  | .emp => true
  | .tr _ _ => true
  | _ => false
def isV : IV → Bool
  | .v _ => true
  | _ => false
def putAt (cs : List IV) (o : Nat) : List IV → List IV
  | [] => cs
  | x :: xs => putAt (cs.set o x) (o + 1) xs

/-- the zero cells of a variable: its slices are rows of their own -/
def zeroObj (L : List (Option Blk)) (TT : TTab) : List ZC → Option (List IV × List (Option Blk))
  | [] => some ([], [])
  | .v x :: zs => (zeroObj L TT zs).map fun (cs, rs) => (.v x :: cs, rs)
  | .row e :: zs => match TT e, zeroObj L TT zs with
    | some i, some (cs, rs) => some (.sl (L.length + rs.length) 0 0 0 :: cs, rs ++ [some ⟨true, e, 0, i.flat, [], 0, false⟩])
    | _, _ => none
/-- what is stored into a new variable: a nil slice becomes a row -/
def rowObj (L : List (Option Blk)) (TT : TTab) : List ZC → List IV → Option (List IV × List (Option Blk))
  | [], [] => some ([], [])
  | .v _ :: zs, x :: xs => (rowObj L TT zs xs).map fun (cs, rs) => (x :: cs, rs)
  | .row e :: zs, .emp :: xs => match TT e, rowObj L TT zs xs with
    | some i, some (cs, rs) => some (.sl (L.length + rs.length) 0 0 0 :: cs, rs ++ [some ⟨true, e, 0, i.flat, [], 0, false⟩])
    | _, _ => none
  | .row _ :: zs, x :: xs => (rowObj L TT zs xs).map fun (cs, rs) => (x :: cs, rs)
  | _, _ => none
def fillIV (TT : TTab) (fs : List (Nat × TypeId)) (cells : List IV) : List (Nat × IV) → Option (List IV)
  | [] => some cells
  | (i, x) :: rest => match fs[i]? with
    | some (off, t) => match TT t with
      | some it => if (cellsOf x).length = it.size ∧ off + it.size ≤ cells.length ∧ isCell x = true then fillIV TT fs (putAt cells off (cellsOf x)) rest else none
      | none => none
    | none => none
/-- the elements of a literal, in order -/
def litCells (size : Nat) : Nat → List (Nat × Operand) → St → Option (List IV)
  | _, [], _ => some []
  | j, (i, x) :: rest, σ => match ev σ x, litCells size (j + 1) rest σ with
    | some a, some r => if i = j ∧ (cellsOf a).length = size ∧ isCell a = true then some (cellsOf a ++ r) else none
    | _, _ => none
def isInt : IV → Option Int
  | .v (.int _ n) => some n
  | _ => none
def bytesOfCells : List IV → Option (List UInt8)
  | [] => some []
  | .v (.int .u8 n) :: xs => (bytesOfCells xs).map (UInt8.ofNat n.toNat :: ·)
  | _ => none
end Go.Lift
