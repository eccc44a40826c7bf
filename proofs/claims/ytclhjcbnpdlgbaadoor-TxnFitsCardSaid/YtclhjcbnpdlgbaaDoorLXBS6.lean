/- package span: reading spans. -/
import Derived.Test.YtclhjcbnpdlgbaaDoorLXBS5
namespace Go.Proofs.YtclhjcbnpdlgbaaDoor
open Go Go.Lift
set_option maxHeartbeats 4000000
set_option linter.unusedSimpArgs false
set_option linter.unusedVariables false
attribute [local irreducible] WK IL IP IG IW DW

/-- reading one span, reading n of them -/
def rSp (l : List UInt8) (p : Nat) (e : Int) : Sp × Nat × Int :=
  (((rNum l p e 65535).1, (rNum l (rNum l p e 65535).2.1 (rNum l p e 65535).2.2 268435456).1, (rNum l (rNum l (rNum l p e 65535).2.1 (rNum l p e 65535).2.2 268435456).2.1 (rNum l (rNum l p e 65535).2.1 (rNum l p e 65535).2.2 268435456).2.2 1024).1),
   (rNum l (rNum l (rNum l p e 65535).2.1 (rNum l p e 65535).2.2 268435456).2.1 (rNum l (rNum l p e 65535).2.1 (rNum l p e 65535).2.2 268435456).2.2 1024).2)
theorem rSp_of {l : List UInt8} {p a p1 b p2 c p3 : Nat} {e e1 e2 e3 : Int} (h1 : rNum l p e 65535 = (a, p1, e1)) (h2 : rNum l p1 e1 268435456 = (b, p2, e2)) (h3 : rNum l p2 e2 1024 = (c, p3, e3)) : rSp l p e = (((a : Int), (b : Int), (c : Int)), p3, e3) := by
  unfold rSp; simp only [h1, h2, h3]
def getGo (l : List UInt8) : Nat → List Sp → Nat → Int → List Sp × Nat × Int
  | 0, out, p, e => (out, p, e)
  | n + 1, out, p, e => if (rSp l p e).2.2 = 0 then getGo l n (out ++ [(rSp l p e).1]) (rSp l p e).2.1 0 else ([], (rSp l p e).2)
def getS (l : List UInt8) (p : Nat) (e : Int) : List Sp × Nat × Int := getGo l (rNum l p e 1024).1 [] (rNum l p e 1024).2.1 (rNum l p e 1024).2.2
theorem rNum_err (l : List UInt8) (p : Nat) (e : Int) (lim : Nat) (he : ¬ e = 0) : rNum l p e lim = (0, p, e) := by unfold rNum; rw [if_neg he]
theorem rSp_err1 {l : List UInt8} {p a p1 : Nat} {e1 : Int} (h1 : rNum l p 0 65535 = (a, p1, e1)) (he : ¬ e1 = 0) : (rSp l p 0).2 = (p1, e1) := by
  rw [rSp_of h1 (rNum_err l p1 e1 _ he) (rNum_err l p1 e1 _ he)]
theorem rSp_err2 {l : List UInt8} {p a p1 b p2 : Nat} {e2 : Int} (h1 : rNum l p 0 65535 = (a, p1, 0)) (h2 : rNum l p1 0 268435456 = (b, p2, e2)) (he : ¬ e2 = 0) : (rSp l p 0).2 = (p2, e2) := by
  rw [rSp_of h1 h2 (rNum_err l p2 e2 _ he)]
end Go.Proofs.YtclhjcbnpdlgbaaDoor
