/- OpReads: for every input. -/
import Derived.Test.YtolbmgkoifchfaaRows
import Derived.WalkKit
import Derived.ProofKit
import Derived.SizedLaws
import Derived.Test.YtolbmgkoifchfaaLX4O4
namespace Go.Proofs.Ytolbmgkoifchfaa.opReads
open Go Go.Lift Go.ChangeShapes Go.WideShapes Go.RowKit
set_option linter.unusedVariables false

theorem own : ownKnob Try.prog.godebug = none := by kernel_rfl
theorem laidOut : laidOutB Try.prog = true := by kernel_rfl
theorem called (A : List IV) (h : TyA [⟨false, [.row [.int .u8]]⟩] A) : ∃ A', SCall Try.prog 3 A (.v (.bool true)) A' := by
  obtain ⟨x1, B1, rfl, h1, g1⟩ := h.one_inv
  obtain rfl := g1.nil_inv
  obtain ⟨t, rfl, ht⟩ := row_bytes h1
  exact ⟨_, opReads_call t (by unfold Go.maxLen at ht; omega)⟩
set_option maxRecDepth 100000 in
theorem lifted (os : Os) (started : os.Started) (H : Type) (enc : TypeId × Value → H) :
    ReturnsInHanded {} Try.checked os 3 .any (Rows.opReadsSpec.pre6 enc Try.prog Try.f3 Rows.opReadsRow.domain false) (Rows.opReadsSpec.post enc Try.prog Try.f3 false true false false) := by
  refine returnsInHanded_of_change_sized (C := Try.checked) own started (by kernel_rfl) Try.func3
    (ChangeSpec.witness6 (enc := enc) (C := Try.checked) false ⟨#[], #[.slice none 0 0], []⟩ 5 (by kernel_rfl) (by kernel_rfl) (by kernel_rfl) (by kernel_rfl)) ?_
  intro W base args ds gs before hval hW hcnd hsz _
  refine law_contract (tb := 4) (ps := [⟨false, [.row [.int .u8]]⟩]) laidOut rfl (fun ds h => ?_) rfl Try.underlying4 ?_ ?_ called W base args ds gs before hval hW
  · rw [Try.params3] at h
    rcases ds with _ | ⟨d0, _ | ⟨d1, ds⟩⟩ <;> first | rfl | (exfalso; simp at h)
  · rw [Try.params3]
    intro t ht
    simp only [List.mem_cons, List.not_mem_nil, or_false] at ht
    rcases ht with rfl <;> exact ⟨by kernel_rfl, of_decide_eq_true (by kernel_rfl)⟩
  · rw [Try.params3]
    exact (.one Try.underlying22 rfl (.slice Try.underlying22 (.int Try.underlying5) (by kernel_rfl) (by decide)) .nil)
theorem over : Rows.opReadsRow.holds Try.pinned (OpenSpec.ofChange Rows.opReadsSpec) :=
  OpenClaim.holds_of_wide 3 Try.f3 rfl rfl rfl rfl rfl rfl rfl ⟨rfl, rfl, rfl, rfl, rfl⟩ rfl rfl rfl rfl rfl (by kernel_rfl) Try.func3 (by kernel_rfl)
    (of_decide_eq_true (by kernel_rfl)) (by unfold Func.isWrapper; first | (rw [if_pos (by decide +kernel)]; kernel_rfl) | (rw [if_neg (by decide +kernel)]; exact ⟨rfl, rfl⟩))
    (fun os started H enc _ => lifted os started H enc)
end Go.Proofs.Ytolbmgkoifchfaa.opReads
namespace Go.Proofs.Ytolbmgkoifchfaa
/-- The row, under a short name, for the claim. -/
theorem opReads_holds : Rows.OpReadsSaid := opReads.over
#print axioms opReads_holds
end Go.Proofs.Ytolbmgkoifchfaa
