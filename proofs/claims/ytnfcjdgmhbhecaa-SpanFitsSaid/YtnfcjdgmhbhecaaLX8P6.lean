/- SpanFits: for every input. -/
import Derived.Test.YtnfcjdgmhbhecaaRows
import Derived.WalkKit
import Derived.ProofKit
import Derived.SizedLaws
import Derived.Test.YtnfcjdgmhbhecaaLX8P5
namespace Go.Proofs.Ytnfcjdgmhbhecaa.spanFits
open Go Go.Lift Go.ChangeShapes Go.WideShapes Go.RowKit
set_option linter.unusedVariables false

theorem own : ownKnob Try.prog.godebug = none := by kernel_rfl
theorem laidOut : laidOutB Try.prog = true := by kernel_rfl
theorem called (A : List IV) (h : TyA [⟨false, [.row [.int .u16, .int .u32, .int .i64]]⟩] A) : ∃ A', SCall Try.prog 5 A (.v (.bool true)) A' := by
  obtain ⟨x1, B1, rfl, h1, g1⟩ := h.one_inv
  obtain rfl := g1.nil_inv
  obtain ⟨l, rfl, _, hg⟩ := row_of (f := spC) (good := fun s => (0 ≤ s.2.1 ∧ s.2.1 ≤ 4294967295) ∧ (-9223372036854775808 ≤ s.2.2 ∧ s.2.2 ≤ 9223372036854775807)) (fun c hc => by
    obtain ⟨y1, ys1, rfl, a1, hc⟩ := hc.cons_inv
    obtain ⟨y2, ys2, rfl, a2, hc⟩ := hc.cons_inv
    obtain ⟨y3, ys3, rfl, a3, hc⟩ := hc.cons_inv
    obtain rfl := hc.nil_inv
    obtain ⟨r, rfl, w1⟩ := a1.int_inv
    obtain ⟨n, rfl, w2⟩ := a2.int_inv
    obtain ⟨k, rfl, w3⟩ := a3.int_inv
    exact ⟨(r, n, k), rfl, wf_u32 w2, wf_i64 w3⟩) h1
  exact ⟨_, spanFits_call l hg⟩
set_option maxRecDepth 100000 in
theorem lifted (os : Os) (started : os.Started) (H : Type) (enc : TypeId × Value → H) :
    ReturnsInHanded {} Try.checked os 5 .any (Rows.spanFitsSpec.pre6 enc Try.prog Try.f5 Rows.spanFitsRow.domain false) (Rows.spanFitsSpec.post enc Try.prog Try.f5 false true false false) := by
  refine returnsInHanded_of_change_sized (C := Try.checked) own started (by kernel_rfl) Try.func5
    (ChangeSpec.witness6 (enc := enc) (C := Try.checked) false ⟨#[], #[.slice none 0 0], []⟩ 5 (by kernel_rfl) (by kernel_rfl) (by kernel_rfl) (by kernel_rfl)) ?_
  intro W base args ds gs before hval hW hcnd hsz _
  refine law_contract (tb := 4) (ps := [⟨false, [.row [.int .u16, .int .u32, .int .i64]]⟩]) laidOut rfl (fun ds h => ?_) rfl Try.underlying4 ?_ ?_ called W base args ds gs before hval hW
  · rw [Try.params5] at h
    rcases ds with _ | ⟨d0, _ | ⟨d1, ds⟩⟩ <;> first | rfl | (exfalso; simp at h)
  · rw [Try.params5]
    intro t ht
    simp only [List.mem_cons, List.not_mem_nil, or_false] at ht
    rcases ht with rfl <;> exact ⟨by kernel_rfl, of_decide_eq_true (by kernel_rfl)⟩
  · rw [Try.params5]
    exact (.one Try.underlying51 rfl (.slice Try.underlying51 (.struct Try.underlying53 (.cons rfl (.struct Try.underlying31 (.cons rfl (.int Try.underlying23) (by kernel_rfl) (.cons rfl (.int Try.underlying24) (by kernel_rfl) .nil)) (by kernel_rfl)) (by kernel_rfl) (.cons rfl (.int Try.underlying3) (by kernel_rfl) .nil)) (by kernel_rfl)) (by kernel_rfl) (by decide)) .nil)
theorem over : Rows.spanFitsRow.holds Try.pinned (OpenSpec.ofChange Rows.spanFitsSpec) :=
  OpenClaim.holds_of_wide 5 Try.f5 rfl rfl rfl rfl rfl rfl rfl ⟨rfl, rfl, rfl, rfl, rfl⟩ rfl rfl rfl rfl rfl (by kernel_rfl) Try.func5 (by kernel_rfl)
    (of_decide_eq_true (by kernel_rfl)) (by unfold Func.isWrapper; first | (rw [if_pos (by decide +kernel)]; kernel_rfl) | (rw [if_neg (by decide +kernel)]; exact ⟨rfl, rfl⟩))
    (fun os started H enc _ => lifted os started H enc)
end Go.Proofs.Ytnfcjdgmhbhecaa.spanFits
namespace Go.Proofs.Ytnfcjdgmhbhecaa
/-- The row, under a short name, for the claim. -/
theorem spanFits_holds : Rows.SpanFitsSaid := spanFits.over
#print axioms spanFits_holds
end Go.Proofs.Ytnfcjdgmhbhecaa
