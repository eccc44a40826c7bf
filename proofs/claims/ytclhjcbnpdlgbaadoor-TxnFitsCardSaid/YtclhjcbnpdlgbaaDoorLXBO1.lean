/- package op: operations, the document's and the program's; reading one. -/
import Derived.Test.YtclhjcbnpdlgbaaDoorLA3
import Derived.Test.YtclhjcbnpdlgbaaDoorLXBS6
namespace Go.Proofs.YtclhjcbnpdlgbaaDoor
open Go Go.Lift
set_option maxHeartbeats 4000000
set_option linter.unusedSimpArgs false
set_option linter.unusedVariables false
attribute [local irreducible] WK IL IP IG IW DW

/-- an operation: kind, replica, number, first number, text, spans, transaction -/
structure OpV where
  k : Int
  r : Int
  n : Int
  m : Int
  t : List UInt8
  s : List Sp
  q : Int
abbrev opL (k r n m : Int) (t : List UInt8) (x : IV) (q : Int) : List IV := [.v (.int .i64 k), .v (.int .u16 r), .v (.int .u32 n), .v (.int .u32 m), .v (.string ⟨t.toArray⟩), x, .v (.int .u32 q)]
/-- reading one: an anchor and a first number -/
def r3 (l : List UInt8) (p : Nat) (e : Int) : (Nat × Nat × Nat) × Nat × Int :=
  (((rNum l p e 65535).1, (rNum l (rNum l p e 65535).2.1 (rNum l p e 65535).2.2 268435456).1, (rNum l (rNum l (rNum l p e 65535).2.1 (rNum l p e 65535).2.2 268435456).2.1 (rNum l (rNum l p e 65535).2.1 (rNum l p e 65535).2.2 268435456).2.2 268435456).1),
   (rNum l (rNum l (rNum l p e 65535).2.1 (rNum l p e 65535).2.2 268435456).2.1 (rNum l (rNum l p e 65535).2.1 (rNum l p e 65535).2.2 268435456).2.2 268435456).2)
theorem r3_of {l : List UInt8} {p a p1 b p2 c p3 : Nat} {e e1 e2 e3 : Int} (h1 : rNum l p e 65535 = (a, p1, e1)) (h2 : rNum l p1 e1 268435456 = (b, p2, e2)) (h3 : rNum l p2 e2 268435456 = (c, p3, e3)) : r3 l p e = ((a, b, c), p3, e3) := by
  unfold r3; simp only [h1, h2, h3]
def opZ : OpV := ⟨0, 0, 0, 0, [], [], 0⟩
def fin3 (o : OpV) (x : Nat × Int) : OpV × Nat × Int := if x.2 = 0 then (o, x) else (opZ, x)
def rOpV (k : Nat) (x : Nat × Int) (l : List UInt8) : (Nat × Nat × Nat) × Nat × Int := if k = 1 ∨ k = 3 then r3 l x.1 x.2 else ((0, 0, 0), x)
def rOpE (l : List UInt8) (k : Nat) (v : (Nat × Nat × Nat) × Nat × Int) : OpV × Nat × Int :=
  if k = 1 then fin3 ⟨k, v.1.1, v.1.2.1, v.1.2.2, (rText l v.2.1 v.2.2 64).1, [], 0⟩ (rText l v.2.1 v.2.2 64).2
  else if k = 2 ∨ k = 3 then fin3 ⟨k, v.1.1, v.1.2.1, v.1.2.2, [], (getS l v.2.1 v.2.2).1, 0⟩ (getS l v.2.1 v.2.2).2
  else fin3 ⟨k, v.1.1, v.1.2.1, v.1.2.2, [], [], (rNum l v.2.1 v.2.2 268435456).1⟩ (rNum l v.2.1 v.2.2 268435456).2
def rOp (l : List UInt8) (p : Nat) (e : Int) : OpV × Nat × Int := rOpE l (rNum l p e 5).1 (rOpV (rNum l p e 5).1 (rNum l p e 5).2 l)
abbrev opO (v : OpV) (T : TypeId) : IV := .ago (opL v.k v.r v.n v.m v.t (.own T v.s.length true (encs spC v.s)) v.q)
theorem opGetN (l : List UInt8) (p : Nat) : True := trivial
end Go.Proofs.YtclhjcbnpdlgbaaDoor
