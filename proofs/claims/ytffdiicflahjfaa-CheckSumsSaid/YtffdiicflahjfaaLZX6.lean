/- CheckSums: the row. -/
import Derived.Test.YtffdiicflahjfaaRows
import Derived.Test.YtffdiicflahjfaaLZX4
import Derived.Test.YtffdiicflahjfaaLZX5
import Derived.WalkKit
import Derived.ProofKit
import Derived.SizedLaws
namespace Go.Proofs.Ytffdiicflahjfaa.checkSums
open Go Go.Lift Go.ChangeShapes Go.WideShapes Go.RowKit
set_option linter.unusedVariables false

theorem own : ownKnob Try.prog.godebug = none := by kernel_rfl
theorem laidOut : laidOutB Try.prog = true := by kernel_rfl
theorem called (A : List IV) (h : TyA [⟨false, [.row [.int .u8]]⟩, ⟨false, [.int .i64]⟩] A) : ∃ A', SCall Try.prog 4 A (.v (.bool true)) A' := by
  obtain ⟨x, B, rfl, h1, h⟩ := h.one_inv
  obtain ⟨y, B, rfl, h2, h⟩ := h.one_inv
  obtain rfl := h.nil_inv
  obtain ⟨l, rfl, _⟩ := row_bytes h1
  unfold Ty at h2
  obtain ⟨k, rfl, _⟩ := h2
  exact ⟨_, checkSums_call l l.length rfl k refSum_eq⟩
set_option maxRecDepth 100000 in
theorem lifted (os : Os) (started : os.Started) (H : Type) (enc : TypeId × Value → H) :
    ReturnsInHanded {} Try.checked os 4 .any (Rows.checkSumsSpec.pre6 enc Try.prog Try.f4 Rows.checkSumsRow.domain false) (Rows.checkSumsSpec.post enc Try.prog Try.f4 false true false false) := by
  refine returnsInHanded_of_change_sized (C := Try.checked) own started (by kernel_rfl) Try.func4
    (ChangeSpec.witness6 (enc := enc) (C := Try.checked) false ⟨#[], #[.slice none 0 0, .int .i64 0], []⟩ 4 (by kernel_rfl) (by kernel_rfl) (by kernel_rfl) (by kernel_rfl)) ?_
  intro W base args ds gs before hval hW hcnd hsz _
  refine law_contract (tb := 4) (ps := [⟨false, [.row [.int .u8]]⟩, ⟨false, [.int .i64]⟩]) laidOut rfl (fun ds h => ?_) rfl Try.underlying4 ?_ ?_ called W base args ds gs before hval hW
  · rw [Try.params4] at h
    rcases ds with _ | ⟨d0, _ | ⟨d1, _ | ⟨d2, ds⟩⟩⟩ <;> first | rfl | (exfalso; simp at h)
  · rw [Try.params4]
    intro t ht
    simp only [List.mem_cons, List.not_mem_nil, or_false] at ht
    rcases ht with rfl | rfl <;> exact ⟨by kernel_rfl, of_decide_eq_true (by kernel_rfl)⟩
  · rw [Try.params4]
    exact .one Try.underlying38 rfl (.slice Try.underlying38 (.int Try.underlying5) (by kernel_rfl) (by decide)) (.one Try.underlying3 rfl (.int Try.underlying3) .nil)
theorem over : Rows.checkSumsRow.holds Try.pinned (OpenSpec.ofChange Rows.checkSumsSpec) :=
  OpenClaim.holds_of_wide 4 Try.f4 rfl rfl rfl rfl rfl rfl rfl ⟨rfl, rfl, rfl, rfl, rfl⟩ rfl rfl rfl rfl rfl (by kernel_rfl) Try.func4 (by kernel_rfl)
    (of_decide_eq_true (by kernel_rfl)) (by unfold Func.isWrapper; first | (rw [if_pos (by decide +kernel)]; kernel_rfl) | (rw [if_neg (by decide +kernel)]; exact ⟨rfl, rfl⟩))
    (fun os started H enc _ => lifted os started H enc)
end Go.Proofs.Ytffdiicflahjfaa.checkSums
namespace Go.Proofs.Ytffdiicflahjfaa
/-- The row, under a short name, for the claim. -/
theorem checkSums_holds : Rows.CheckSumsSaid := checkSums.over
#print axioms checkSums_holds
end Go.Proofs.Ytffdiicflahjfaa
