/- package span: the spans of names. -/
import Derived.Test.YtclhjcbnpdlgbaaDoorLXBI1
namespace Go.Proofs.YtclhjcbnpdlgbaaDoor
open Go Go.Lift
set_option maxHeartbeats 4000000
set_option linter.unusedSimpArgs false
set_option linter.unusedVariables false
attribute [local irreducible] WK IL IP IG IW DW

/-- names: replica, number; spans: replica, number, how many -/
abbrev Nm := Int × Int
abbrev Sp := Int × Int × Int
def nmC (a : Nm) : List IV := [.v (.int .u16 a.1), .v (.int .u32 a.2)]
def spC (a : Sp) : List IV := [.v (.int .u16 a.1), .v (.int .u32 a.2.1), .v (.int .i64 a.2.2)]
instance : Cells nmC 2 := ⟨fun _ => rfl, fun _ => rfl, fun _ => rfl⟩
instance : Cells spC 3 := ⟨fun _ => rfl, fun _ => rfl, fun _ => rfl⟩
theorem spC_length (a : Sp) : (spC a).length = 3 := rfl
theorem nmC_length (a : Nm) : (nmC a).length = 2 := rfl
def ofStep (out : List Sp) (a : Nm) : List Sp :=
  match out.getLast? with
  | some s => if s.1 = a.1 ∧ IntKind.u32.wrap (s.2.1 + IntKind.u32.wrap s.2.2) = a.2 ∧ s.2.2 < 1024 then out.dropLast ++ [(s.1, s.2.1, s.2.2 + 1)] else out ++ [(a.1, a.2, 1)]
  | none => out ++ [(a.1, a.2, 1)]
def spanOf (l : List Nm) : List Sp := l.foldl ofStep []
def ofGood (k : Nat) (out : List Sp) : Prop := out.length ≤ k ∧ ∀ s ∈ out, 1 ≤ s.2.2 ∧ s.2.2 ≤ 1024
theorem nil_or_snoc {α : Type} (l : List α) : l = [] ∨ ∃ p s, l = p ++ [s] := by
  rcases List.eq_nil_or_concat l with h | ⟨p, s, h⟩
  · exact .inl h
  · exact .inr ⟨p, s, by simpa using h⟩
theorem ofStep_nil (a : Nm) : ofStep [] a = [(a.1, a.2, 1)] := rfl
theorem ofStep_snoc (p : List Sp) (s : Sp) (a : Nm) : ofStep (p ++ [s]) a = if s.1 = a.1 ∧ IntKind.u32.wrap (s.2.1 + IntKind.u32.wrap s.2.2) = a.2 ∧ s.2.2 < 1024 then p ++ [(s.1, s.2.1, s.2.2 + 1)] else p ++ [s] ++ [(a.1, a.2, 1)] := by
  unfold ofStep; simp
theorem ofStep_good {k : Nat} {out : List Sp} (a : Nm) (h : ofGood k out) : ofGood (k + 1) (ofStep out a) := by
  obtain ⟨h1, h2⟩ := h
  rcases nil_or_snoc out with rfl | ⟨p, s, rfl⟩
  · rw [ofStep_nil]; exact ⟨by simp, by simp⟩
  · rw [ofStep_snoc]
    simp only [List.length_append, List.length_cons, List.length_nil] at h1
    have hs := h2 s (by simp)
    split
    · refine ⟨by simp; omega, fun x hx => ?_⟩
      simp only [List.mem_append, List.mem_cons, List.not_mem_nil, or_false] at hx
      rcases hx with hx | rfl
      · exact h2 x (by simp [hx])
      · simp only; omega
    · refine ⟨by simp; omega, fun x hx => ?_⟩
      simp only [List.mem_append, List.mem_cons, List.not_mem_nil, or_false] at hx
      rcases hx with (hx | rfl) | rfl
      · exact h2 x (by simp [hx])
      · exact hs
      · simp only; omega
theorem foldl_take_succ {α β : Type} (f : β → α → β) (b : β) (l : List α) (k : Nat) (hk : k < l.length) : (l.take (k + 1)).foldl f b = f ((l.take k).foldl f b) l[k] := by
  rw [List.take_add_one, List.getElem?_eq_getElem hk, List.foldl_append]; rfl
theorem snoc_facts (p : List Sp) (s : Sp) (x : Int) : (p ++ [s]).length = p.length + 1 ∧ ((encs spC (p ++ [s])).drop (p.length * 3)).take 2 = [.v (.int .u16 s.1), .v (.int .u32 s.2.1)] ∧ (encs spC (p ++ [s]))[p.length * 3 + 2]? = some (.v (.int .i64 s.2.2)) ∧
    (encs spC (p ++ [s])).set (p.length * 3 + 2) (.v (.int .i64 x)) = encs spC (p ++ [(s.1, s.2.1, x)]) ∧ p.length * 3 + 2 ≤ (p.length + 1) * 3 ∧ (((p.length + 1 : Nat) : Int) - 1).toNat = p.length := by
  have hx : (p ++ [s])[p.length]? = some s := by simp
  have hat := encs_at spC_length hx
  refine ⟨by simp, ?_, encs_get spC_length hx (by decide), ?_, by omega, by omega⟩
  · have := congrArg (List.take 2) hat
    rw [List.take_take] at this
    exact this
  · rw [encs_set spC_length (b := (s.1, s.2.1, x)) hx (by decide) rfl]; simp
end Go.Proofs.YtclhjcbnpdlgbaaDoor
