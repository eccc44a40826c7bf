/- TrailJoins: for every input. -/
import Derived.Test.YthekbbgpmiogdaaRows
import Derived.WalkKit
import Derived.ProofKit
import Derived.SizedLaws
import Derived.Test.YthekbbgpmiogdaaLYVF
namespace Go.Proofs.Ythekbbgpmiogdaa.trailJoins
open Go Go.Lift Go.ChangeShapes Go.WideShapes Go.RowKit
set_option linter.unusedVariables false

theorem own : ownKnob Try.prog.godebug = none := by kernel_rfl
theorem laidOut : laidOutB Try.prog = true := by kernel_rfl
theorem called (A : List IV) (h : TyA [⟨false, [.row [.str]]⟩, ⟨false, [.int .i64]⟩] A) : ∃ A', SCall Try.prog 4 A (.v (.bool true)) A' := by
  obtain ⟨x1, B1, rfl, h1, g1⟩ := h.one_inv
  obtain ⟨x2, B2, rfl, h2, g2⟩ := g1.one_inv
  obtain rfl := g2.nil_inv
  obtain ⟨a, rfl, _⟩ := h2.int_inv
  obtain ⟨ls, rfl, _, hg⟩ := row_of (f := strC) (good := fun s => s.length ≤ 9223372036854775807) (fun c hc => by
    obtain ⟨y1, ys1, rfl, a1, hc⟩ := hc.cons_inv
    obtain rfl := hc.nil_inv
    obtain ⟨s, rfl, hs⟩ := a1.str_inv
    rw [ba_eta s]
    exact ⟨s.data.toList, rfl, by unfold maxLen at hs; simpa using hs⟩) h1
  exact ⟨_, trailJoins_call ls a hg⟩
set_option maxRecDepth 100000 in
theorem lifted (os : Os) (started : os.Started) (H : Type) (enc : TypeId × Value → H) :
    ReturnsInHanded {} Try.checked os 4 .any (Rows.trailJoinsSpec.pre6 enc Try.prog Try.f4 Rows.trailJoinsRow.domain false) (Rows.trailJoinsSpec.post enc Try.prog Try.f4 false true false false) := by
  refine returnsInHanded_of_change_sized (C := Try.checked) own started (by kernel_rfl) Try.func4
    (ChangeSpec.witness6 (enc := enc) (C := Try.checked) false ⟨#[], #[.slice none 0 0, .int .i64 0], []⟩ 5 (by kernel_rfl) (by kernel_rfl) (by kernel_rfl) (by kernel_rfl)) ?_
  intro W base args ds gs before hval hW hcnd hsz _
  refine law_contract (tb := 4) (ps := [⟨false, [.row [.str]]⟩, ⟨false, [.int .i64]⟩]) laidOut rfl (fun ds h => ?_) rfl Try.underlying4 ?_ ?_ called W base args ds gs before hval hW
  · rw [Try.params4] at h
    rcases ds with _ | ⟨d0, _ | ⟨d1, _ | ⟨d2, ds⟩⟩⟩ <;> first | rfl | (exfalso; simp at h)
  · rw [Try.params4]
    intro t ht
    simp only [List.mem_cons, List.not_mem_nil, or_false] at ht
    rcases ht with rfl | rfl <;> exact ⟨by kernel_rfl, of_decide_eq_true (by kernel_rfl)⟩
  · rw [Try.params4]
    exact (.one Try.underlying29 rfl (.slice Try.underlying29 (.str Try.underlying9) (by kernel_rfl) (by decide)) (.one Try.underlying3 rfl (.int Try.underlying3) .nil))
theorem over : Rows.trailJoinsRow.holds Try.pinned (OpenSpec.ofChange Rows.trailJoinsSpec) :=
  OpenClaim.holds_of_wide 4 Try.f4 rfl rfl rfl rfl rfl rfl rfl ⟨rfl, rfl, rfl, rfl, rfl⟩ rfl rfl rfl rfl rfl (by kernel_rfl) Try.func4 (by kernel_rfl)
    (of_decide_eq_true (by kernel_rfl)) (by unfold Func.isWrapper; first | (rw [if_pos (by decide +kernel)]; kernel_rfl) | (rw [if_neg (by decide +kernel)]; exact ⟨rfl, rfl⟩))
    (fun os started H enc _ => lifted os started H enc)
end Go.Proofs.Ythekbbgpmiogdaa.trailJoins
namespace Go.Proofs.Ythekbbgpmiogdaa
/-- The row, under a short name, for the claim. -/
theorem trailJoins_holds : Rows.TrailJoinsSaid := trailJoins.over
#print axioms trailJoins_holds
end Go.Proofs.Ythekbbgpmiogdaa
