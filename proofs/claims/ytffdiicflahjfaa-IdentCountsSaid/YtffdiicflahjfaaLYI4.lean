/- IdentCounts: for every input. -/
import Derived.Test.YtffdiicflahjfaaRows
import Derived.Test.YtffdiicflahjfaaLYI3
import Derived.Test.YtffdiicflahjfaaLY6
import Derived.WalkKit
import Derived.ProofKit
import Derived.SizedLaws
namespace Go.Proofs.Ytffdiicflahjfaa.identCounts
open Go Go.Lift Go.ChangeShapes Go.WideShapes Go.RowKit
set_option linter.unusedVariables false

theorem own : ownKnob Try.prog.godebug = none := by kernel_rfl
theorem laidOut : laidOutB Try.prog = true := by kernel_rfl
theorem called (A : List IV) (h : TyA [⟨false, [.int .u64]⟩, ⟨false, [.int .u32]⟩, ⟨false, [.int .i64]⟩, ⟨false, [.row [.int .u64]]⟩] A) : ∃ A', SCall Try.prog 8 A (.v (.bool true)) A' := by
  obtain ⟨x1, B1, rfl, h1, g1⟩ := h.one_inv
  obtain ⟨x2, B2, rfl, h2, g2⟩ := g1.one_inv
  obtain ⟨x3, B3, rfl, h3, g3⟩ := g2.one_inv
  obtain ⟨x4, B4, rfl, h4, g4⟩ := g3.one_inv
  obtain rfl := g4.nil_inv
  obtain ⟨c, rfl, hc⟩ := h1.int_inv
  obtain ⟨n, rfl, hn⟩ := h2.int_inv
  obtain ⟨k, rfl, hk⟩ := h3.int_inv
  obtain ⟨l, rfl, hl, _⟩ := row_ints h4
  exact ⟨_, identCounts_call c n k l (wf_u64 hc) (wf_u32 hn) (wf_i64 hk)⟩
set_option maxRecDepth 100000 in
theorem lifted (os : Os) (started : os.Started) (H : Type) (enc : TypeId × Value → H) :
    ReturnsInHanded {} Try.checked os 8 .any (Rows.identCountsSpec.pre6 enc Try.prog Try.f8 Rows.identCountsRow.domain false) (Rows.identCountsSpec.post enc Try.prog Try.f8 false true false false) := by
  refine returnsInHanded_of_change_sized (C := Try.checked) own started (by kernel_rfl) Try.func8
    (ChangeSpec.witness6 (enc := enc) (C := Try.checked) false ⟨#[], #[.int .u64 0, .int .u32 0, .int .i64 0, .slice none 0 0], []⟩ 5 (by kernel_rfl) (by kernel_rfl) (by kernel_rfl) (by kernel_rfl)) ?_
  intro W base args ds gs before hval hW hcnd hsz _
  refine law_contract (tb := 4) (ps := [⟨false, [.int .u64]⟩, ⟨false, [.int .u32]⟩, ⟨false, [.int .i64]⟩, ⟨false, [.row [.int .u64]]⟩]) laidOut rfl (fun ds h => ?_) rfl Try.underlying4 ?_ ?_ called W base args ds gs before hval hW
  · rw [Try.params8] at h
    rcases ds with _ | ⟨d0, _ | ⟨d1, _ | ⟨d2, _ | ⟨d3, _ | ⟨d4, ds⟩⟩⟩⟩⟩ <;> first | rfl | (exfalso; simp at h)
  · rw [Try.params8]
    intro t ht
    simp only [List.mem_cons, List.not_mem_nil, or_false] at ht
    rcases ht with rfl | rfl | rfl | rfl <;> exact ⟨by kernel_rfl, of_decide_eq_true (by kernel_rfl)⟩
  · rw [Try.params8]
    exact (.one Try.underlying48 rfl (.int Try.underlying48) (.one Try.underlying26 rfl (.int Try.underlying26) (.one Try.underlying3 rfl (.int Try.underlying3) (.one Try.underlying59 rfl (.slice Try.underlying59 (.int Try.underlying48) (by kernel_rfl) (by decide)) .nil))))
theorem over : Rows.identCountsRow.holds Try.pinned (OpenSpec.ofChange Rows.identCountsSpec) :=
  OpenClaim.holds_of_wide 8 Try.f8 rfl rfl rfl rfl rfl rfl rfl ⟨rfl, rfl, rfl, rfl, rfl⟩ rfl rfl rfl rfl rfl (by kernel_rfl) Try.func8 (by kernel_rfl)
    (of_decide_eq_true (by kernel_rfl)) (by unfold Func.isWrapper; first | (rw [if_pos (by decide +kernel)]; kernel_rfl) | (rw [if_neg (by decide +kernel)]; exact ⟨rfl, rfl⟩))
    (fun os started H enc _ => lifted os started H enc)
end Go.Proofs.Ytffdiicflahjfaa.identCounts
namespace Go.Proofs.Ytffdiicflahjfaa
/-- The row, under a short name, for the claim. -/
theorem identCounts_holds : Rows.IdentCountsSaid := identCounts.over
#print axioms identCounts_holds
end Go.Proofs.Ytffdiicflahjfaa
