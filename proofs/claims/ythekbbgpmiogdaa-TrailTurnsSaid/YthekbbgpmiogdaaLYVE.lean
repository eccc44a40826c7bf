/- TrailTurns: for every input. -/
import Derived.Test.YthekbbgpmiogdaaRows
import Derived.WalkKit
import Derived.ProofKit
import Derived.SizedLaws
import Derived.Test.YthekbbgpmiogdaaLYVD
namespace Go.Proofs.Ythekbbgpmiogdaa.trailTurns
open Go Go.Lift Go.ChangeShapes Go.WideShapes Go.RowKit
set_option linter.unusedVariables false

theorem own : ownKnob Try.prog.godebug = none := by kernel_rfl
theorem laidOut : laidOutB Try.prog = true := by kernel_rfl
theorem called (A : List IV) (h : TyA [⟨false, [.str]⟩, ⟨false, [.int .i64]⟩, ⟨false, [.int .i64]⟩, ⟨false, [.int .i64]⟩] A) : ∃ A', SCall Try.prog 6 A (.v (.bool true)) A' := by
  obtain ⟨x1, B1, rfl, h1, g1⟩ := h.one_inv
  obtain ⟨x2, B2, rfl, h2, g2⟩ := g1.one_inv
  obtain ⟨x3, B3, rfl, h3, g3⟩ := g2.one_inv
  obtain ⟨x4, B4, rfl, h4, g4⟩ := g3.one_inv
  obtain rfl := g4.nil_inv
  obtain ⟨s, rfl, hs⟩ := h1.str_inv
  obtain ⟨re, rfl, _⟩ := h2.int_inv
  obtain ⟨im, rfl, _⟩ := h3.int_inv
  obtain ⟨q, rfl, _⟩ := h4.int_inv
  rw [ba_eta s]
  exact ⟨_, trailTurns_call _ re im q (by unfold maxLen at hs; simpa using hs)⟩
set_option maxRecDepth 100000 in
theorem lifted (os : Os) (started : os.Started) (H : Type) (enc : TypeId × Value → H) :
    ReturnsInHanded {} Try.checked os 6 .any (Rows.trailTurnsSpec.pre6 enc Try.prog Try.f6 Rows.trailTurnsRow.domain false) (Rows.trailTurnsSpec.post enc Try.prog Try.f6 false true false false) := by
  refine returnsInHanded_of_change_sized (C := Try.checked) own started (by kernel_rfl) Try.func6
    (ChangeSpec.witness6 (enc := enc) (C := Try.checked) false ⟨#[], #[.string ⟨#[]⟩, .int .i64 0, .int .i64 0, .int .i64 0], []⟩ 5 (by kernel_rfl) (by kernel_rfl) (by kernel_rfl) (by kernel_rfl)) ?_
  intro W base args ds gs before hval hW hcnd hsz _
  refine law_contract (tb := 4) (ps := [⟨false, [.str]⟩, ⟨false, [.int .i64]⟩, ⟨false, [.int .i64]⟩, ⟨false, [.int .i64]⟩]) laidOut rfl (fun ds h => ?_) rfl Try.underlying4 ?_ ?_ called W base args ds gs before hval hW
  · rw [Try.params6] at h
    rcases ds with _ | ⟨d0, _ | ⟨d1, _ | ⟨d2, _ | ⟨d3, _ | ⟨d4, ds⟩⟩⟩⟩⟩ <;> first | rfl | (exfalso; simp at h)
  · rw [Try.params6]
    intro t ht
    simp only [List.mem_cons, List.not_mem_nil, or_false] at ht
    rcases ht with rfl | rfl | rfl | rfl <;> exact ⟨by kernel_rfl, of_decide_eq_true (by kernel_rfl)⟩
  · rw [Try.params6]
    exact (.one Try.underlying9 rfl (.str Try.underlying9) (.one Try.underlying3 rfl (.int Try.underlying3) (.one Try.underlying3 rfl (.int Try.underlying3) (.one Try.underlying3 rfl (.int Try.underlying3) .nil))))
theorem over : Rows.trailTurnsRow.holds Try.pinned (OpenSpec.ofChange Rows.trailTurnsSpec) :=
  OpenClaim.holds_of_wide 6 Try.f6 rfl rfl rfl rfl rfl rfl rfl ⟨rfl, rfl, rfl, rfl, rfl⟩ rfl rfl rfl rfl rfl (by kernel_rfl) Try.func6 (by kernel_rfl)
    (of_decide_eq_true (by kernel_rfl)) (by unfold Func.isWrapper; first | (rw [if_pos (by decide +kernel)]; kernel_rfl) | (rw [if_neg (by decide +kernel)]; exact ⟨rfl, rfl⟩))
    (fun os started H enc _ => lifted os started H enc)
end Go.Proofs.Ythekbbgpmiogdaa.trailTurns
namespace Go.Proofs.Ythekbbgpmiogdaa
/-- The row, under a short name, for the claim. -/
theorem trailTurns_holds : Rows.TrailTurnsSaid := trailTurns.over
#print axioms trailTurns_holds
end Go.Proofs.Ythekbbgpmiogdaa
