/- CheckSeals: the row. -/
import Derived.Test.YtffdiicflahjfaaRows
import Derived.Test.YtffdiicflahjfaaLZX8
import Derived.WalkKit
import Derived.ProofKit
import Derived.SizedLaws
namespace Go.Proofs.Ytffdiicflahjfaa.checkSeals
open Go Go.Lift Go.ChangeShapes Go.WideShapes Go.RowKit
set_option linter.unusedVariables false

theorem own : ownKnob Try.prog.godebug = none := by kernel_rfl
theorem laidOut : laidOutB Try.prog = true := by kernel_rfl
theorem called (A : List IV) (h : TyA [⟨false, [.row [.int .u8]]⟩, ⟨false, [.row [.int .u8]]⟩] A) : ∃ A', SCall Try.prog 5 A (.v (.bool true)) A' := by
  obtain ⟨x, B, rfl, h1, h⟩ := h.one_inv
  obtain ⟨y, B, rfl, h2, h⟩ := h.one_inv
  obtain rfl := h.nil_inv
  obtain ⟨l, rfl, _⟩ := row_bytes h1
  obtain ⟨c, rfl, _⟩ := row_bytes h2
  exact ⟨_, checkSeals_call l c⟩
set_option maxRecDepth 100000 in
theorem lifted (os : Os) (started : os.Started) (H : Type) (enc : TypeId × Value → H) :
    ReturnsInHanded {} Try.checked os 5 .any (Rows.checkSealsSpec.pre6 enc Try.prog Try.f5 Rows.checkSealsRow.domain false) (Rows.checkSealsSpec.post enc Try.prog Try.f5 false true false false) := by
  refine returnsInHanded_of_change_sized (C := Try.checked) own started (by kernel_rfl) Try.func5
    (ChangeSpec.witness6 (enc := enc) (C := Try.checked) false ⟨#[], #[.slice none 0 0, .slice none 0 0], []⟩ 5 (by kernel_rfl) (by kernel_rfl) (by kernel_rfl) (by kernel_rfl)) ?_
  intro W base args ds gs before hval hW hcnd hsz _
  refine law_contract (tb := 4) (ps := [⟨false, [.row [.int .u8]]⟩, ⟨false, [.row [.int .u8]]⟩]) laidOut rfl (fun ds h => ?_) rfl Try.underlying4 ?_ ?_ called W base args ds gs before hval hW
  · rw [Try.params5] at h
    rcases ds with _ | ⟨d0, _ | ⟨d1, _ | ⟨d2, ds⟩⟩⟩ <;> first | rfl | (exfalso; simp at h)
  · rw [Try.params5]
    intro t ht
    simp only [List.mem_cons, List.not_mem_nil, or_false] at ht
    rcases ht with rfl | rfl <;> exact ⟨by kernel_rfl, of_decide_eq_true (by kernel_rfl)⟩
  · rw [Try.params5]
    exact .one Try.underlying38 rfl (.slice Try.underlying38 (.int Try.underlying5) (by kernel_rfl) (by decide)) (.one Try.underlying38 rfl (.slice Try.underlying38 (.int Try.underlying5) (by kernel_rfl) (by decide)) .nil)
theorem over : Rows.checkSealsRow.holds Try.pinned (OpenSpec.ofChange Rows.checkSealsSpec) :=
  OpenClaim.holds_of_wide 5 Try.f5 rfl rfl rfl rfl rfl rfl rfl ⟨rfl, rfl, rfl, rfl, rfl⟩ rfl rfl rfl rfl rfl (by kernel_rfl) Try.func5 (by kernel_rfl)
    (of_decide_eq_true (by kernel_rfl)) (by unfold Func.isWrapper; first | (rw [if_pos (by decide +kernel)]; kernel_rfl) | (rw [if_neg (by decide +kernel)]; exact ⟨rfl, rfl⟩))
    (fun os started H enc _ => lifted os started H enc)
end Go.Proofs.Ytffdiicflahjfaa.checkSeals
namespace Go.Proofs.Ytffdiicflahjfaa
/-- The row, under a short name, for the claim. -/
theorem checkSeals_holds : Rows.CheckSealsSaid := checkSeals.over
#print axioms checkSeals_holds
end Go.Proofs.Ytffdiicflahjfaa
