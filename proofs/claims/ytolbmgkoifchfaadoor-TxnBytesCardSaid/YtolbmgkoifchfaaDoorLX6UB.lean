/- A transaction that was written is read again. -/
import Derived.Test.YtolbmgkoifchfaaDoorLX6UA
import Derived.Test.YtolbmgkoifchfaaDoorLX6U2
namespace Go.Proofs.YtolbmgkoifchfaaDoor
open Go Go.Lift
set_option maxHeartbeats 4000000
set_option linter.unusedSimpArgs false
set_option linter.unusedVariables false

/-- an operation that can be done -/
def goodO (o : OpV) : Prop := ∃ k r n m q : Nat, o = ⟨k, r, n, m, o.t, o.s, q⟩ ∧ r ≤ 65535 ∧ n ≤ 268435456 ∧ m ≤ 268435456 ∧ q ≤ 268435456 ∧ o.t.length ≤ 64 ∧ o.s.length ≤ 60 ∧ (∀ x ∈ o.s, fits x) ∧
  ((k = 1 ∧ o.s = [] ∧ q = 0) ∨ (k = 2 ∧ o.t = [] ∧ q = 0 ∧ r = 0 ∧ n = 0 ∧ m = 0) ∨ (k = 3 ∧ o.t = [] ∧ q = 0) ∨ ((k = 4 ∨ k = 5) ∧ o.t = [] ∧ o.s = [] ∧ r = 0 ∧ n = 0 ∧ m = 0))
theorem goodO_ok {o : OpV} (h : goodO o) : okO o := by
  obtain ⟨k, r, n, m, q, e, b1, b2, b3, b4, b5, b6, b7, b8⟩ := h
  exact ⟨k, r, n, m, q, e, by omega, by omega, by omega, by omega, by omega, by omega, b6, b7⟩
theorem opsGo_at : ∀ (rest out : List OpV) (pre W : List UInt8), (∀ o ∈ rest, goodO o) → W = pre ++ opsB rest → opsGo W rest.length out pre.length 0 = (out ++ rest, W.length, 0)
  | [], out, pre, W, _, hW => by subst hW; simp [opsGo, opsB]
  | o :: rest, out, pre, W, hf, hW => by
    obtain ⟨k, r, n, m, q, e, b1, b2, b3, b4, b5, b6, b7, b8⟩ := hf o (by simp)
    have hb : opBV o = opB k r n m o.t o.s q := by rw [e]; simp [opBV]
    have hW2 : W = pre ++ (opB k r n m o.t o.s q ++ opsB rest) := by rw [hW, ← hb]; simp [opsB]
    have h1 := rOp_at k r n m q o.t o.s pre (opsB rest) W b1 b2 b3 b4 b5 (by omega) b7 b8 hW2
    have ih := opsGo_at rest (out ++ [o]) (pre ++ opB k r n m o.t o.s q) W (fun x hx => hf x (by simp [hx])) (by rw [hW2]; simp)
    rw [← e] at h1
    rw [List.length_cons, opsGo, h1]
    simp only [if_true]
    rw [ih]; simp
theorem rTx_txB (r s c u : Nat) (ops : List OpV) (hr : r ≤ 65535) (hs : s ≤ 268435456) (hc : c ≤ 1099511627776) (hu : u ≤ 7) (hl : ops.length ≤ 16) (ho : ∀ o ∈ ops, goodO o) :
    rTx (hdB r s c u ops.length ++ opsB ops) 0 0 = (⟨r, s, c, u, ops⟩, (hdB r s c u ops.length ++ opsB ops).length, 0) := by
  have e : hdB r s c u ops.length ++ opsB ops = numB r ++ numB s ++ numB c ++ numB u ++ numB ops.length ++ opsB ops := rfl
  generalize hdB r s c u ops.length ++ opsB ops = W at *
  have h1 := rN W [] r (numB s ++ (numB c ++ (numB u ++ (numB ops.length ++ opsB ops)))) 65535 (by rw [e]; simp) (by omega) hr
  have h2 := rN W ([] ++ numB r) s (numB c ++ (numB u ++ (numB ops.length ++ opsB ops))) 268435456 (by rw [e]; simp) (by omega) hs
  have h3 := rN W ([] ++ numB r ++ numB s) c (numB u ++ (numB ops.length ++ opsB ops)) 1099511627776 (by rw [e]; simp) (by omega) hc
  have h4 := rN W ([] ++ numB r ++ numB s ++ numB c) u (numB ops.length ++ opsB ops) 7 (by rw [e]; simp) (by omega) hu
  have h5 := rN W ([] ++ numB r ++ numB s ++ numB c ++ numB u) ops.length (opsB ops) 16 (by rw [e]; simp) (by omega) hl
  have h6 := opsGo_at ops [] ([] ++ numB r ++ numB s ++ numB c ++ numB u ++ numB ops.length) W ho (by rw [e]; simp)
  rw [show ([] : List UInt8).length = 0 from rfl] at h1
  rw [rTx_of h1 h2 h3 h4 h5, h6]
  simp [txF]
end Go.Proofs.YtolbmgkoifchfaaDoor
