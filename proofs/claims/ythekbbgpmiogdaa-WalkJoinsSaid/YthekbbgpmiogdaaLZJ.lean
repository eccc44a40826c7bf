/- One operation: what the evaluator asks and gives, and that the machine does so. -/
import Derived.Test.YthekbbgpmiogdaaLZI
namespace Go.Lift
open Go Go.RowKit

def aggEq (op : BinOp) (r : Bool) : Option Bool :=
  match op with
  | .eql => some r
  | .neq => some (!r)
  | _ => none
def TD.isBool : TD → Bool
  | .bool => true
  | _ => false
def TD.isStr : TD → Bool
  | .str => true
  | _ => false
def TD.isSlice : TD → Bool
  | .slice _ => true
  | _ => false
/-- elements o .. o + n of a list of cells, each of 'size' cells -/
def cut (cs : List IV) (o n size : Nat) : List IV := (cs.drop (o * size)).take (n * size)
/-- bounds of a slice expression -/
def bnd (σ : St) (x : Option Operand) (dflt : Nat) : Option Nat :=
  match x with
  | none => some dflt
  | some x => match ev σ x with
    | some (.v (.int _ n)) => if 0 ≤ n then some n.toNat else none
    | _ => none
def fieldOf (i : TI) (f : Nat) : Option (Nat × TypeId) :=
  match i.desc with
  | .struct fs => fs[f]?
  | _ => none
def partIV (i : TI) (cs : List IV) (off : Nat) : Option IV :=
  if i.isA = true then if off + i.size ≤ cs.length then some (.agg ((cs.drop off).take i.size)) else none else cs[off]?
def evs (σ : St) : List Operand → Option (List IV)
  | [] => some []
  | x :: xs => match ev σ x, evs σ xs with
    | some y, some ys => some (y :: ys)
    | _, _ => none

/-- what is appended, as cells -/
def srcOf (L : List (Option Blk)) (TT : TTab) (u e : TypeId) (size : Nat) (x : IV) : Option (Nat × List IV) :=
  match TT u with
  | none => none
  | some iu => match iu.desc, x with
    | .slice e', .emp => if e' = e then some (0, []) else none
    | .slice e', .tr m cs => if e' = e ∧ cs.length = m * size then some (m, cs) else none
    | .slice e', .sl k ver o m => if e' = e then match blkAt L k ver with
        | some b => if b.row = true ∧ b.t = e ∧ o + m ≤ b.n then some (m, cut b.cs o m size) else none
        | none => none else none
    | .str, .v (.string s) => if size = 1 then some (s.size, strCells s) else none
    | _, _ => none

def appendTo (σ : St) (TT : TTab) (o : Oper) (t u : TypeId) (x y : IV) (K : St → Prop) : Prop :=
  ob (TT t) fun it => match it.desc with
  | .slice e => ob (TT e) fun ie => ob (srcOf σ.L TT u e ie.size y) fun (m, xs) =>
    match x with
    | .emp => (m ≤ maxLen ∧ m * ie.bytes ≤ 140737488355328) ∧ (ie.flat = true → xs.all isV = true) ∧
        fin o σ (.sl σ.L.length 1 0 m) (σ.L ++ [some ⟨true, e, m, ie.flat, xs, 1, false⟩]) K
    | .sl k ver off n => ob (blkAt σ.L k ver) fun b => (b.frz = false ∧ b.row = true ∧ b.t = e ∧ off = 0 ∧ n ≤ b.n) ∧ (n + m ≤ maxLen ∧ (n + m) * ie.bytes ≤ 140737488355328) ∧ (b.fl = true → xs.all isV = true) ∧
        fin o σ (.sl k (ver + 1) 0 (n + m)) (σ.L.set k (some { b with n := n + m, cs := b.cs.take (n * ie.size) ++ xs, ver := ver + 1 })) K
    | _ => False
  | _ => False

def stepBuiltin (TT : TTab) (o : Oper) (b : Builtin) (ts : Array TypeId) (xs : List IV) (σ : St) (K : St → Prop) : Prop :=
  match b, xs with
  | .len, [.v (.string s)] => ob (ts[0]?) fun t => ob (TT t) fun i => i.desc.isStr = true ∧ fin o σ (.v (.int .i64 s.size)) σ.L K
  | .len, [.emp] => ob (ts[0]?) fun t => ob (TT t) fun i => i.desc.isSlice = true ∧ fin o σ (.v (.int .i64 0)) σ.L K
  | .len, [.tr n _] => ob (ts[0]?) fun t => ob (TT t) fun i => i.desc.isSlice = true ∧ fin o σ (.v (.int .i64 n)) σ.L K
  | .len, [.sl _ _ _ n] => ob (ts[0]?) fun t => ob (TT t) fun i => i.desc.isSlice = true ∧ fin o σ (.v (.int .i64 n)) σ.L K
  | .append, [x, y] => match ts.toList with
    | [t, u] => appendTo σ TT o t u x y K
    | _ => False
  | .real, [.v (.complex k a _)] => fin o σ (.v (.float k a)) σ.L K
  | .imag, [.v (.complex k _ b)] => fin o σ (.v (.float k b)) σ.L K
  | .complex, [.v (.float .f64 a), .v (.float .f64 b)] => fin o σ (.v (.complex .f64 a b)) σ.L K
  | .max, [.v (.float .f64 a), .v (.float .f64 b)] => ob (fmax a b) fun r => fin o σ (.v (.float .f64 r)) σ.L K
  | .min, [.v (.float .f64 a), .v (.float .f64 b)] => ob (fmin a b) fun r => fin o σ (.v (.float .f64 r)) σ.L K
  | .max, [.v (.int k a), .v (.int _ b)] => fin o σ (.v (.int k (if b > a then b else a))) σ.L K
  | .min, [.v (.int k a), .v (.int _ b)] => fin o σ (.v (.int k (if b < a then b else a))) σ.L K
  | _, _ => False

def stepOp (TT : TTab) (o : Oper) (σ : St) (K : St → Prop) : Prop :=
  match o.op with
  | .move x => ob (ev σ x) fun v => fin o σ v σ.L K
  | .assign (.const (.slice none 0 0)) => ob (TT o.type) fun i => match i.desc with
    | .slice e => ob (TT e) fun ie => fin o σ (.sl σ.L.length 0 0 0) (σ.L ++ [some (nilRow e ie.flat)]) K
    | _ => False
  | .assign x => ob (ev σ x) fun v => fin o σ v σ.L K
  | .pick c x y => ob (ev σ c) fun c => match c with
    | .v (.bool t) => ob (if t = true then ev σ x else ev σ y) fun v => fin o σ v σ.L K
    | _ => False
  | .alloc t => ob (TT t) fun i => ob (zeroObj σ.L TT i.zero) fun (cs, rs) => fin o σ (.ptr (σ.L.length + rs.length) 0 0) (σ.L ++ rs ++ [some (objBlk t cs)]) K
  | .box t x => ob (TT t) fun i => ob (ev σ x) fun v => isCell v = true ∧ ob (rowObj σ.L TT i.zero (cellsOf v)) fun (cs, rs) =>
      fin o σ (.ptr (σ.L.length + rs.length) 0 0) (σ.L ++ rs ++ [some (objBlk t cs)]) K
  | .load t x => ob (TT t) fun i => ob (ev σ x) fun v => match v with
    | .ptr k ver off => ob (blkAt σ.L k ver) fun b => ob (loadIV i b.cs off) fun v => fin o σ v σ.L K
    | .rp cs off => ob (loadIV i cs off) fun v => fin o σ v σ.L K
    | _ => False
  | .store t x y => ob (TT t) fun i => ob (ev σ x) fun p => ob (ev σ y) fun v => match p with
    | .ptr k ver off => ob (blkAt σ.L k ver) fun b => (b.frz = false ∧ (cellsOf v).length = i.size ∧ off + i.size ≤ b.cs.length) ∧ isCell v = true ∧
        (b.row = true → (cellsOf v).all isTree = true ∧ (b.fl = true → (cellsOf v).all isV = true)) ∧ o.dst = none ∧ K { σ with L := σ.L.set k (some { b with cs := putAt b.cs off (cellsOf v) }) }
    | _ => False
  | .nilCheck x => ob (ev σ x) fun v => match v with
    | .ptr _ _ _ => fin o σ v σ.L K
    | .rp _ _ => fin o σ v σ.L K
    | .fn (.func _) _ => fin o σ v σ.L K
    | _ => False
  | .binOp op t x y _ => ob (ev σ x) fun u => ob (ev σ y) fun v => match u, v with
    | .v (.bool p), .v (.bool q) => ob (TT t) fun i => i.desc.isBool = true ∧ ob (pboolEq op p q) fun z => fin o σ (.v z) σ.L K
    | .v p, .v q => ob (pbin op p q) fun z => fin o σ (.v z) σ.L K
    | .agg xs, .agg ys => ob (TT t) fun i => ob i.eqk fun ks => ob (eqCells ks xs ys) fun r => ob (aggEq op r) fun z => fin o σ (.v (.bool z)) σ.L K
    | _, _ => False
  | .unOp op _ x => ob (ev σ x) fun u => match u with
    | .v p => ob (pun op p) fun z => fin o σ (.v z) σ.L K
    | _ => False
  | .fieldAddr s x f => ob (TT s) fun i => ob (fieldOf i f) fun (off, t) => ob (TT t) fun _ => ob (ev σ x) fun v => match v with
    | .ptr k ver p => fin o σ (.ptr k ver (p + off)) σ.L K
    | .rp cs p => fin o σ (.rp cs (p + off)) σ.L K
    | _ => False
  | .field s x f => ob (TT s) fun i => ob (fieldOf i f) fun (off, t) => ob (TT t) fun it => ob (ev σ x) fun v => match v with
    | .agg cs => ob (partIV it cs off) fun v => fin o σ v σ.L K
    | _ => False
  | .indexAddr t x j => ob (TT t) fun i => ob (ev σ x) fun v => ob (ev σ j) fun q => match i.desc, v, q with
    | .slice e, .tr n cs, .v (.int _ j) => ob (TT e) fun ie => (0 ≤ j ∧ j < n ∧ cs ≠ []) ∧ fin o σ (.rp cs (j.toNat * ie.size)) σ.L K
    | .slice e, .sl k ver off n, .v (.int _ j) => ob (TT e) fun ie => ob (blkAt σ.L k ver) fun b => (0 ≤ j ∧ j < n ∧ b.t = e ∧ b.row = true) ∧ fin o σ (.ptr k ver ((off + j.toNat) * ie.size)) σ.L K
    | .arr n e, .ptr k ver p, .v (.int _ j) => ob (TT e) fun ie => (0 ≤ j ∧ j < n) ∧ fin o σ (.ptr k ver (p + j.toNat * ie.size)) σ.L K
    | _, _, _ => False
  | .index t x j => ob (TT t) fun i => ob (ev σ x) fun v => ob (ev σ j) fun q => match i.desc, v, q with
    | .str, .v (.string s), .v (.int _ j) => (0 ≤ j ∧ j < s.size) ∧ fin o σ (.v (.int .u8 (s.data.toList.getD j.toNat 0).toNat)) σ.L K
    | .arr n e, .agg cs, .v (.int _ j) => ob (TT e) fun ie => (0 ≤ j ∧ j < n) ∧ ob (partIV ie cs (j.toNat * ie.size)) fun v => fin o σ v σ.L K
    | _, _, _ => False
  | .extract x j => ob (ev σ x) fun v => match v with
    | .tup vs => ob (vs[j]?) fun v => fin o σ v σ.L K
    | _ => False
  | .slice t x lo hi none => ob (TT t) fun i => ob (ev σ x) fun v => match i.desc, v with
    | .str, .v (.string s) => ob (bnd σ lo 0) fun l => ob (bnd σ hi s.size) fun h => (l ≤ h ∧ h ≤ s.size) ∧ fin o σ (.v (.string (s.extract l h))) σ.L K
    | .slice e, .tr n cs => ob (TT e) fun ie => ob (bnd σ lo 0) fun l => ob (bnd σ hi n) fun h => (l ≤ h ∧ h ≤ n) ∧ fin o σ (.tr (h - l) (cut cs l (h - l) ie.size)) σ.L K
    | .slice e, .sl k ver off n => ob (TT e) fun _ => ob (blkAt σ.L k ver) fun b => ob (bnd σ lo 0) fun l => ob (bnd σ hi n) fun h => (l ≤ h ∧ h ≤ n ∧ b.t = e ∧ b.row = true) ∧ fin o σ (.sl k ver (off + l) (h - l)) σ.L K
    | .slice e, .emp => ob (TT e) fun _ => ob (bnd σ lo 0) fun l => ob (bnd σ hi 0) fun h => (l = 0 ∧ h = 0) ∧ fin o σ .emp σ.L K
    | _, _ => False
  | .buildSlice t len ps => ob (TT t) fun i => match i.desc with
    | .slice e => ob (TT e) fun ie => ob (litCells ie.size 0 ps.toList σ) fun cs => (len ≤ 1000 ∧ ie.size ≤ 1000 ∧ ps.size = len) ∧ cs.all isTree = true ∧ (ie.flat = true → cs.all isV = true) ∧
        fin o σ (.sl σ.L.length 0 0 len) (σ.L ++ [some ⟨true, e, len, ie.flat, cs, 0, false⟩]) K
    | _ => False
  | .build t ps => ob (TT t) fun i => match i.desc with
    | .struct fs => ob (evs σ (ps.toList.map (·.2))) fun vs => ob (fillIV TT fs (i.zero.map ZC.iv) ((ps.toList.map (·.1)).zip vs)) fun cs => (fs.all fun f => (TT f.2).isSome) = true ∧ fin o σ (.agg cs) σ.L K
    | _ => False
  | .convert s d x => ob (TT s) fun is => ob (TT d) fun id => ob (ev σ x) fun v => match id.num, v with
    | some k, .v (.int _ n) => fin o σ (.v (.int k (k.wrap n))) σ.L K
    | some k, .v (.float .f64 b) => ob (floatToIntVal .f64 b k) fun n => fin o σ (.v (.int k n)) σ.L K
    | _, v => match is.desc, id.desc, v with
      | .slice e, .str, v => ob (TT e) fun ie => (ie.num = some .u8 ∧ ie.size = 1) ∧ ob (srcOf σ.L TT s e 1 v) fun (_, cs) => ob (bytesOfCells cs) fun bs => fin o σ (.v (.string ⟨bs.toArray⟩)) σ.L K
      | _, .float, .v (.int _ n) => fin o σ (.v (.float .f64 (FloatKind.f64.nearest n))) σ.L K
      | .str, .slice e, .v (.string s) => ob (TT e) fun ie => ie.num = some .u8 ∧ fin o σ (.tr s.size (strCells s)) σ.L K
      | _, _, _ => False
  | .call c => match c.callee with
    | .builtin b => ob (evs σ c.args.toList) fun xs => stepBuiltin TT o b c.argTypes xs σ K
    | _ => False
  | _ => False
end Go.Lift
