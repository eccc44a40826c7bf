/- SpanMakes: its function. -/
import Derived.Test.YtnfcjdgmhbhecaaLX8S2
namespace Go.Proofs.Ytnfcjdgmhbhecaa
open Go Go.Lift
set_option maxHeartbeats 4000000
set_option linter.unusedSimpArgs false
set_option linter.unusedVariables false
attribute [local irreducible] WK IL IP IG IW DW

theorem idsOf_snoc (p : List Sp) (s : Sp) : idsOf (p ++ [s]) = idsOf p ++ idsOne s s.2.2.toNat := by simp [idsOf]
theorem idsOf_step (out : List Sp) (a : Nm) (h : ∀ s ∈ out, 1 ≤ s.2.2 ∧ s.2.2 ≤ 1024) (ha : 0 ≤ a.2 ∧ a.2 ≤ 4294967295) : idsOf (ofStep out a) = idsOf out ++ [a] := by
  have one : idsOne (a.1, a.2, 1) (1 : Int).toNat = [a] := by
    rw [show (1 : Int).toNat = 0 + 1 from rfl, idsOne_succ]
    simp only [idsOne, List.range_zero, List.map_nil, List.nil_append]
    have e : IntKind.u32.wrap ((0 : Nat) : Int) = 0 := rfl
    rw [e, Int.add_zero, wrap_u32 ha.1 ha.2]
  rcases nil_or_snoc out with rfl | ⟨p, s, rfl⟩
  · rw [ofStep_nil, show [(a.1, a.2, (1 : Int))] = [] ++ [(a.1, a.2, (1 : Int))] from rfl, idsOf_snoc, one]
  · have hs := h s (by simp)
    rw [ofStep_snoc]
    split
    · rename_i hc
      obtain ⟨h1, h2, h3⟩ := hc
      rw [idsOf_snoc, idsOf_snoc]
      simp only
      rw [show (s.2.2 + 1).toNat = s.2.2.toNat + 1 by omega, idsOne_succ]
      simp only
      have e : ((s.2.2.toNat : Nat) : Int) = s.2.2 := by omega
      rw [e, h2, h1, List.append_assoc]
      have e2 : idsOne (a.1, s.2.1, s.2.2 + 1) s.2.2.toNat = idsOne s s.2.2.toNat := by unfold idsOne; rw [h1]
      rw [e2]
    · rw [idsOf_snoc, one]
theorem idsOf_spanOf (l : List Nm) (hg : ∀ a ∈ l, 1 ≤ a.2 ∧ a.2 ≤ 268435456) : ∀ k, k ≤ l.length → ofGood k (spanOf (l.take k)) ∧ idsOf (spanOf (l.take k)) = l.take k
  | 0, _ => ⟨⟨by simp [spanOf], by simp [spanOf]⟩, rfl⟩
  | k + 1, hk => by
    obtain ⟨h1, h2⟩ := idsOf_spanOf l hg k (by omega)
    have hx : l[k]? = some l[k] := List.getElem?_eq_getElem (by omega)
    have hst : spanOf (l.take (k + 1)) = ofStep (spanOf (l.take k)) l[k] := foldl_take_succ _ _ _ _ (by omega)
    have ha := hg l[k] (List.getElem_mem (by omega))
    rw [hst]
    refine ⟨ofStep_good _ h1, ?_⟩
    rw [idsOf_step _ _ h1.2 (by omega), h2, List.take_add_one, hx]; rfl
end Go.Proofs.Ytnfcjdgmhbhecaa
