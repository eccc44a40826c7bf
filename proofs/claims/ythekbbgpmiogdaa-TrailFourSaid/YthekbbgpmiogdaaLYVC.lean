/- TrailFour: for every input. -/
import Derived.Test.YthekbbgpmiogdaaRows
import Derived.WalkKit
import Derived.ProofKit
import Derived.SizedLaws
import Derived.Test.YthekbbgpmiogdaaLYVB
namespace Go.Proofs.Ythekbbgpmiogdaa.trailFour
open Go Go.Lift Go.ChangeShapes Go.WideShapes Go.RowKit
set_option linter.unusedVariables false

theorem own : ownKnob Try.prog.godebug = none := by kernel_rfl
theorem laidOut : laidOutB Try.prog = true := by kernel_rfl
theorem called (A : List IV) (h : TyA [⟨false, [.str]⟩] A) : ∃ A', SCall Try.prog 5 A (.v (.bool true)) A' := by
  obtain ⟨x1, B1, rfl, h1, g1⟩ := h.one_inv
  obtain rfl := g1.nil_inv
  obtain ⟨s, rfl, hs⟩ := h1.str_inv
  rw [ba_eta s]
  exact ⟨_, trailFour_call _ (by unfold maxLen at hs; simpa using hs)⟩
set_option maxRecDepth 100000 in
theorem lifted (os : Os) (started : os.Started) (H : Type) (enc : TypeId × Value → H) :
    ReturnsInHanded {} Try.checked os 5 .any (Rows.trailFourSpec.pre6 enc Try.prog Try.f5 Rows.trailFourRow.domain false) (Rows.trailFourSpec.post enc Try.prog Try.f5 false true false false) := by
  refine returnsInHanded_of_change_sized (C := Try.checked) own started (by kernel_rfl) Try.func5
    (ChangeSpec.witness6 (enc := enc) (C := Try.checked) false ⟨#[], #[.string ⟨#[]⟩], []⟩ 5 (by kernel_rfl) (by kernel_rfl) (by kernel_rfl) (by kernel_rfl)) ?_
  intro W base args ds gs before hval hW hcnd hsz _
  refine law_contract (tb := 4) (ps := [⟨false, [.str]⟩]) laidOut rfl (fun ds h => ?_) rfl Try.underlying4 ?_ ?_ called W base args ds gs before hval hW
  · rw [Try.params5] at h
    rcases ds with _ | ⟨d0, _ | ⟨d1, ds⟩⟩ <;> first | rfl | (exfalso; simp at h)
  · rw [Try.params5]
    intro t ht
    simp only [List.mem_cons, List.not_mem_nil, or_false] at ht
    rcases ht with rfl <;> exact ⟨by kernel_rfl, of_decide_eq_true (by kernel_rfl)⟩
  · rw [Try.params5]
    exact (.one Try.underlying9 rfl (.str Try.underlying9) .nil)
theorem over : Rows.trailFourRow.holds Try.pinned (OpenSpec.ofChange Rows.trailFourSpec) :=
  OpenClaim.holds_of_wide 5 Try.f5 rfl rfl rfl rfl rfl rfl rfl ⟨rfl, rfl, rfl, rfl, rfl⟩ rfl rfl rfl rfl rfl (by kernel_rfl) Try.func5 (by kernel_rfl)
    (of_decide_eq_true (by kernel_rfl)) (by unfold Func.isWrapper; first | (rw [if_pos (by decide +kernel)]; kernel_rfl) | (rw [if_neg (by decide +kernel)]; exact ⟨rfl, rfl⟩))
    (fun os started H enc _ => lifted os started H enc)
end Go.Proofs.Ythekbbgpmiogdaa.trailFour
namespace Go.Proofs.Ythekbbgpmiogdaa
/-- The row, under a short name, for the claim. -/
theorem trailFour_holds : Rows.TrailFourSaid := trailFour.over
#print axioms trailFour_holds
end Go.Proofs.Ythekbbgpmiogdaa
