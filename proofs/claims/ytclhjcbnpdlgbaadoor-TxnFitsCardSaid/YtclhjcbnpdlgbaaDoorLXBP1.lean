/- package pack: its reader and its writer. -/
import Derived.Test.YtclhjcbnpdlgbaaDoorLXBTT
namespace Go.Proofs.YtclhjcbnpdlgbaaDoor
open Go Go.Lift
set_option maxHeartbeats 4000000
set_option linter.unusedSimpArgs false
set_option linter.unusedVariables false
attribute [local irreducible] WK IL IP IG IW DW

/-- a reader: bytes, where it stands, its error -/
abbrev rdO (l : List UInt8) (p : Nat) (e : Int) : IV := .obj [.v (.string ⟨l.toArray⟩), .v (.int .i64 (p : Int)), .v (.int .i64 e)]
/-- a reader's byte: what it is, where the reader stands then, its error -/
def rByte (l : List UInt8) (p : Nat) (e : Int) : Nat × Nat × Int := if e = 0 then (if p = l.length then (0, p, 14) else ((l.getD p 0).toNat, p + 1, 0)) else (0, p, e)
/-- a number's bytes, read: the number, how many bytes, an error -/
def readN (lim : Nat) : Nat → List UInt8 → Nat → Nat → Nat × Nat × Nat
  | 0, _, _, _ => (0, 0, 11)
  | _ + 1, [], _, _ => (0, 0, 14)
  | f + 1, c :: r, k, n => if 128 ≤ c.toNat then readN lim f r (k + 1) (n + c.toNat % 128 * 128 ^ k) else if c.toNat = 0 ∧ 0 < k then (0, 0, 11) else if lim < n + c.toNat % 128 * 128 ^ k then (0, 0, 10) else (n + c.toNat % 128 * 128 ^ k, k + 1, 0)
def rNum (l : List UInt8) (p : Nat) (e : Int) (lim : Nat) : Nat × Nat × Int :=
  if e = 0 then (if (readN lim 9 (l.drop p) 0 0).2.2 = 0 then ((readN lim 9 (l.drop p) 0 0).1, p + (readN lim 9 (l.drop p) 0 0).2.1, 0) else (0, p, ((readN lim 9 (l.drop p) 0 0).2.2 : Int))) else (0, p, e)
theorem readN_le (lim : Nat) : ∀ (f : Nat) (r : List UInt8) (k n : Nat), (readN lim f r k n).1 ≤ lim ∧ ((readN lim f r k n).2.2 = 0 → (readN lim f r k n).2.1 ≤ k + r.length)
  | 0, r, k, n => by simp [readN]
  | f + 1, [], k, n => by simp [readN]
  | f + 1, c :: r, k, n => by
    have ih := readN_le lim f r (k + 1) (n + c.toNat % 128 * 128 ^ k)
    rw [readN]
    split
    · refine ⟨ih.1, fun h => ?_⟩
      have := ih.2 h
      simp only [List.length_cons]; omega
    · split
      · exact ⟨Nat.zero_le _, fun h => by cases h⟩
      · split
        · exact ⟨Nat.zero_le _, fun h => by cases h⟩
        · refine ⟨by simp only; omega, fun _ => by simp only [List.length_cons]; omega⟩
theorem rNum_le (l : List UInt8) (p : Nat) (e : Int) (lim : Nat) (hp : p ≤ l.length) : (rNum l p e lim).1 ≤ lim ∧ (rNum l p e lim).2.1 ≤ l.length := by
  have h := readN_le lim 9 (l.drop p) 0 0
  unfold rNum
  split
  · split
    · have := h.2 ‹_›
      simp only [List.length_drop] at this ⊢
      exact ⟨h.1, by omega⟩
    · exact ⟨Nat.zero_le _, hp⟩
  · exact ⟨Nat.zero_le _, hp⟩
def rText (l : List UInt8) (p : Nat) (e : Int) (lim : Nat) : List UInt8 × Nat × Int :=
  if (rNum l p e lim).2.2 = 0 then (if l.length - (rNum l p e lim).2.1 < (rNum l p e lim).1 then ([], p, 14) else ((l.drop (rNum l p e lim).2.1).take (rNum l p e lim).1, (rNum l p e lim).2.1 + (rNum l p e lim).1, 0)) else ([], (rNum l p e lim).2.1, (rNum l p e lim).2.2)
/-- a writer: the bytes that it has -/
abbrev wrO (l : List UInt8) : IV := .obj [.own 5 l.length true (bcells l)]
/-- a number's bytes -/
def numB (n : Nat) : List UInt8 := if n < 128 then [UInt8.ofNat n] else UInt8.ofNat (n % 128 + 128) :: numB (n / 128)
termination_by n
theorem numB_small (n : Nat) (h : n < 128) : numB n = [UInt8.ofNat n] := by rw [numB, if_pos h]
theorem numB_big (n : Nat) (h : ¬ n < 128) : numB n = UInt8.ofNat (n % 128 + 128) :: numB (n / 128) := by rw [numB, if_neg h]
theorem numB_le : ∀ (k n : Nat), n < 128 ^ k → (numB n).length ≤ k + 1
  | 0, n, h => by simp at h; subst h; rw [numB_small _ (by decide)]; simp
  | k + 1, n, h => by
    by_cases hn : n < 128
    · rw [numB_small _ hn]; simp
    · have := numB_le k (n / 128) (by rw [Nat.pow_succ] at h; omega)
      rw [numB_big _ hn, List.length_cons]; omega
theorem putAt_all : ∀ (xs cs : List IV) (o : List IV), xs.length = cs.length → putAt (o ++ cs) o.length xs = o ++ xs
  | [], cs, o, h => by
    have : cs = [] := List.eq_nil_of_length_eq_zero h.symm
    subst this; rfl
  | x :: xs, [], o, h => by simp at h
  | x :: xs, c :: cs, o, h => by
    have hs : (o ++ c :: cs).set o.length x = (o ++ [x]) ++ cs := by simp
    rw [putAt, hs]
    have := putAt_all xs cs (o ++ [x]) (by simpa using h)
    simp only [List.length_append, List.length_cons, List.length_nil, Nat.zero_add] at this
    rw [this]; simp
theorem putAt_zero (xs cs : List IV) (h : xs.length = cs.length) : putAt cs 0 xs = xs := by
  have := putAt_all xs cs [] h
  simpa using this
end Go.Proofs.YtclhjcbnpdlgbaaDoor
