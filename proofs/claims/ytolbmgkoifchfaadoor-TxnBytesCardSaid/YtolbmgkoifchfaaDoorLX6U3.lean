/- package txn: the document reads a transaction. -/
import Derived.Test.YtolbmgkoifchfaaDoorLX6U2
namespace Go.Proofs.YtolbmgkoifchfaaDoor
open Go Go.Lift
set_option maxHeartbeats 8000000
set_option linter.unusedSimpArgs false
set_option linter.unusedVariables false
attribute [local irreducible] WK IL IP IG IW DW

def r5 (l : List UInt8) (p : Nat) (e : Int) : (Nat × Nat × Nat × Nat × Nat) × Nat × Int :=
  let x1 := rNum l p e 65535
  let x2 := rNum l x1.2.1 x1.2.2 268435456
  let x3 := rNum l x2.2.1 x2.2.2 1099511627776
  let x4 := rNum l x3.2.1 x3.2.2 7
  let x5 := rNum l x4.2.1 x4.2.2 16
  ((x1.1, x2.1, x3.1, x4.1, x5.1), x5.2)
theorem r5_of {l : List UInt8} {p a p1 b p2 c p3 d p4 n p5 : Nat} {e e1 e2 e3 e4 e5 : Int} (h1 : rNum l p e 65535 = (a, p1, e1)) (h2 : rNum l p1 e1 268435456 = (b, p2, e2)) (h3 : rNum l p2 e2 1099511627776 = (c, p3, e3)) (h4 : rNum l p3 e3 7 = (d, p4, e4)) (h5 : rNum l p4 e4 16 = (n, p5, e5)) :
    r5 l p e = ((a, b, c, d, n), p5, e5) := by
  unfold r5; simp only [h1, h2, h3, h4, h5]
/-- a header that can't be read -/
def bad5 (l : List UInt8) (p : Nat) (x : Nat × Int) : Prop := ∃ a b c d, r5 l p 0 = ((a, b, c, d, 0), x)
theorem r5_err0 {l : List UInt8} {p a q : Nat} {e : Int} (h : rNum l p 0 65535 = (a, q, e)) (he : ¬ e = 0) : bad5 l p (q, e) := ⟨_, _, _, _, r5_of h (rNum_err l _ _ _ he) (rNum_err l _ _ _ he) (rNum_err l _ _ _ he) (rNum_err l _ _ _ he)⟩
theorem r5_err1 {l : List UInt8} {p a p1 b q : Nat} {e : Int} (h1 : rNum l p 0 65535 = (a, p1, 0)) (h : rNum l p1 0 268435456 = (b, q, e)) (he : ¬ e = 0) : bad5 l p (q, e) := ⟨_, _, _, _, r5_of h1 h (rNum_err l _ _ _ he) (rNum_err l _ _ _ he) (rNum_err l _ _ _ he)⟩
theorem r5_err2 {l : List UInt8} {p a p1 b p2 c q : Nat} {e : Int} (h1 : rNum l p 0 65535 = (a, p1, 0)) (h2 : rNum l p1 0 268435456 = (b, p2, 0)) (h : rNum l p2 0 1099511627776 = (c, q, e)) (he : ¬ e = 0) : bad5 l p (q, e) := ⟨_, _, _, _, r5_of h1 h2 h (rNum_err l _ _ _ he) (rNum_err l _ _ _ he)⟩
theorem r5_err3 {l : List UInt8} {p a p1 b p2 c p3 d q : Nat} {e : Int} (h1 : rNum l p 0 65535 = (a, p1, 0)) (h2 : rNum l p1 0 268435456 = (b, p2, 0)) (h3 : rNum l p2 0 1099511627776 = (c, p3, 0)) (h : rNum l p3 0 7 = (d, q, e)) (he : ¬ e = 0) : bad5 l p (q, e) := ⟨_, _, _, _, r5_of h1 h2 h3 h (rNum_err l _ _ _ he)⟩
theorem r5_err4 {l : List UInt8} {p a p1 b p2 c p3 d p4 n q : Nat} {e : Int} (h1 : rNum l p 0 65535 = (a, p1, 0)) (h2 : rNum l p1 0 268435456 = (b, p2, 0)) (h3 : rNum l p2 0 1099511627776 = (c, p3, 0)) (h4 : rNum l p3 0 7 = (d, p4, 0)) (h : rNum l p4 0 16 = (n, q, e)) (he : ¬ e = 0) : bad5 l p (q, e) := by
  obtain rfl := rNum_zero h he
  exact ⟨_, _, _, _, r5_of h1 h2 h3 h4 h⟩
theorem rTx_r5 {l : List UInt8} {p a b c d n q : Nat} {e : Int} (h : r5 l p 0 = ((a, b, c, d, n), q, e)) : rTx l p 0 = txF a b c d (opsGo l n [] q e) := by
  unfold r5 at h
  simp only [Prod.mk.injEq] at h
  obtain ⟨⟨rfl, rfl, rfl, rfl, rfl⟩, h6⟩ := h
  unfold rTx
  simp only [h6]
theorem rTx_bad {l : List UInt8} {p : Nat} {x : Nat × Int} (h : bad5 l p x) (hx : ¬ x.2 = 0) : rTx l p 0 = (⟨0, 0, 0, 0, []⟩, x) := by
  obtain ⟨a, b, c, d, h⟩ := h
  rw [rTx_r5 h, opsGo]
  unfold txF
  rw [if_neg hx]
end Go.Proofs.YtolbmgkoifchfaaDoor
