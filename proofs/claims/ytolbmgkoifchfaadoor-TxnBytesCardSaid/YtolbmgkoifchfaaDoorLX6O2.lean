/- package op: the document reads an operation. -/
import Derived.Test.YtolbmgkoifchfaaDoorLX6O1
namespace Go.Proofs.YtolbmgkoifchfaaDoor
open Go Go.Lift
set_option maxHeartbeats 8000000
set_option linter.unusedSimpArgs false
set_option linter.unusedVariables false
attribute [local irreducible] WK IL IP IG IW DW

theorem getS_err (l : List UInt8) (p : Nat) (e : Int) (he : ¬ e = 0) : getS l p e = ([], p, e) := by unfold getS; rw [rNum_err l p e 1024 he]; rfl
theorem rTextErr (l : List UInt8) (q : Nat) (e : Int) (he : ¬ e = 0) (lim : Nat) : rText l q e lim = ([], q, e) := by unfold rText; rw [rNum_err l q e _ he]; simp only; rw [if_neg he]
theorem rOpE_err (l : List UInt8) (k : Nat) (v : (Nat × Nat × Nat) × Nat × Int) (he : ¬ v.2.2 = 0) : rOpE l k v = (opZ, v.2) := by
  unfold rOpE
  split
  · rw [rTextErr l _ _ he]; unfold fin3; rw [if_neg he]
  · split
    · rw [getS_err l _ _ he]; unfold fin3; rw [if_neg he]
    · rw [rNum_err l _ _ _ he]; unfold fin3; rw [if_neg he]
theorem r3_err1 {l : List UInt8} {p a p1 : Nat} {e1 : Int} (h1 : rNum l p 0 65535 = (a, p1, e1)) (he : ¬ e1 = 0) : (r3 l p 0).2 = (p1, e1) := by
  rw [r3_of h1 (rNum_err l p1 e1 _ he) (rNum_err l p1 e1 _ he)]
theorem r3_err2 {l : List UInt8} {p a p1 b p2 : Nat} {e2 : Int} (h1 : rNum l p 0 65535 = (a, p1, 0)) (h2 : rNum l p1 0 268435456 = (b, p2, e2)) (he : ¬ e2 = 0) : (r3 l p 0).2 = (p2, e2) := by
  rw [r3_of h1 h2 (rNum_err l p2 e2 _ he)]
theorem rNum_zero {l : List UInt8} {p lim n p0 : Nat} {e0 : Int} (hrn : rNum l p 0 lim = (n, p0, e0)) (h : ¬ e0 = 0) : n = 0 := by
  unfold rNum at hrn
  rw [if_pos rfl] at hrn
  split at hrn
  · simp only [Prod.mk.injEq] at hrn; exact absurd hrn.2.2.symm h
  · simp only [Prod.mk.injEq] at hrn; exact hrn.1.symm
end Go.Proofs.YtolbmgkoifchfaaDoor
