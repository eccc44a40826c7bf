/- package ident, and the document's answer for it: what the functions give. -/
import Derived.Test.YtolbmgkoifchfaaLX4TT
namespace Go.Proofs.Ytolbmgkoifchfaa
open Go Go.Lift
set_option linter.unusedSimpArgs false
set_option linter.unusedVariables false
attribute [local irreducible] WK IL IP IG IW DW

/-- cmp.Compare -/
def cmpI (a b : Int) : Int := if a < b then -1 else if a > b then 1 else 0
/-- cmp.Or: the first one that isn't 0 -/
def orI : List Int → Int
  | [] => 0
  | a :: l => if a = 0 then orI l else a
def icells (l : List Int) : List IV := l.map fun a => .v (.int .i64 a)
abbrev idIV (r n : Int) : IV := .agg [.v (.int .u16 r), .v (.int .u32 n)]
abbrev keyIV (c r n : Int) : IV := .agg [.v (.int .u64 c), .v (.int .u16 r), .v (.int .u32 n)]
def lessI (r n r' n' : Int) : Bool := decide (r < r') || (decide (r = r') && decide (n < n'))
def keyLessI (c r n c' r' n' : Int) : Bool := if c = c' then lessI r n r' n' else decide (c < c')
def tickI (c : Int) : Int × Int := if 1099511627776 ≤ c then (0, 20) else (c + 1, 0)
def takeI (next count : Int) : Int × Int := if count < 0 ∨ next < 1 then (0, 10) else if next > 268435457 ∨ count > 268435457 - next then (0, 20) else (next + count, 0)
def signI (a b : Bool) : Int := if a then -1 else if b then 1 else 0
def ucells (l : List Int) : List IV := l.map fun a => .v (.int .u64 a)
def laterI (c : Int) (l : List Int) : Int := l.foldl (fun a b => if b > a then b else a) c
theorem laterI_spec (c : Int) (l : List Int) : c ≤ laterI c l ∧ (∀ x ∈ l, x ≤ laterI c l) ∧ (laterI c l = c ∨ laterI c l ∈ l) := by
  unfold laterI
  induction l generalizing c with
  | nil => simp
  | cons a l ih =>
    obtain ⟨h1, h2, h3⟩ := ih (if a > c then a else c)
    simp only [List.foldl_cons, List.mem_cons, forall_eq_or_imp]
    by_cases hca : a > c
    · rw [if_pos hca] at h1 h2 h3 ⊢
      exact ⟨by omega, ⟨h1, h2⟩, h3.elim (fun h => .inr (.inl h)) (fun h => .inr (.inr h))⟩
    · rw [if_neg hca] at h1 h2 h3 ⊢
      exact ⟨h1, ⟨by omega, h2⟩, h3.elim .inl (fun h => .inr (.inr h))⟩
end Go.Proofs.Ytolbmgkoifchfaa
