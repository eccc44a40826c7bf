import Derived.Test.YtaaopphbgbbedaaRows
import Derived.WalkKit
import Derived.ProofKit
import Derived.SizedLaws
import Derived.Test.YtaaopphbgbbedaaLXFXA
import Derived.Test.YtaaopphbgbbedaaLA2
set_option linter.unusedVariables false
set_option linter.unusedSimpArgs false
/- LayoutRows: for every input. -/
namespace Go.Proofs.Ytaaopphbgbbedaa.layoutRows
open Go Go.Lift Go.ChangeShapes Go.WideShapes Go.RowKit
set_option linter.unusedVariables false

theorem own : ownKnob Try.prog.godebug = none := by kernel_rfl
theorem laidOut : laidOutB Try.prog = true := by kernel_rfl
theorem called (A : List IV) (h : TyA [⟨false, [.str]⟩, ⟨false, [.int .i64]⟩] A) (hwt : SzA [[.no], [.no]] A) : ∃ A', SCallG [] Try.prog 3 A (.v (.bool true)) A' := by
  obtain ⟨x1, B1, rfl, h1, g1⟩ := h.one_inv
  obtain ⟨x2, B2, rfl, h2, g2⟩ := g1.one_inv
  obtain rfl := g2.nil_inv
  obtain ⟨s, rfl, w5⟩ := h1.str_inv
  obtain ⟨w, rfl, w2⟩ := h2.int_inv
  have hs := layoutRows_call s.data.toList w (wf_i64 w2) (by unfold Go.maxLen at w5; simpa using w5)
  rw [← ba_eta s] at hs
  exact ⟨_, fun W R vals os a b c d _ => hs W R vals os a b c d⟩
set_option maxRecDepth 100000 in
theorem lifted (os : Os) (started : os.Started) (H : Type) (enc : TypeId × Value → H) :
    ReturnsInHanded {} Try.checked os 3 .any (Rows.layoutRowsSpec.pre6 enc Try.prog Try.f3 Rows.layoutRowsRow.domain false) (Rows.layoutRowsSpec.post enc Try.prog Try.f3 false true false false) := by
  refine returnsInHanded_of_change_sized (C := Try.checked) own started (by kernel_rfl) Try.func3
    (ChangeSpec.witness6 (enc := enc) (C := Try.checked) false ⟨#[], #[.string ⟨#[]⟩, .int .i64 0], []⟩ 5 (by kernel_rfl) (by kernel_rfl) (by kernel_rfl) (by kernel_rfl)) ?_
  intro W base args ds gs before hval hW hcnd hsz _
  refine law_contractGW (G := []) (tb := 4) (ps := [⟨false, [.str]⟩, ⟨false, [.int .i64]⟩]) (ws := [[.no], [.no]]) laidOut rfl (fun ds h => ?_) rfl Try.underlying4 ?_ ?_ ?_ called W (fun x hx => by simp at hx) base args ds gs before hval hW hsz
  · rw [Try.params3] at h
    rcases ds with _ | ⟨d0, _ | ⟨d1, _ | ⟨d2, ds⟩⟩⟩ <;> first | rfl | (exfalso; simp at h)
  · rw [Try.params3]
    intro t ht
    simp only [List.mem_cons, List.not_mem_nil, or_false] at ht
    rcases ht with rfl | rfl <;> exact ⟨by kernel_rfl, of_decide_eq_true (by kernel_rfl)⟩
  · rw [Try.params3]
    exact (.one Try.underlying9 rfl (.str Try.underlying9) (.one Try.underlying3 rfl (.int Try.underlying3) .nil))
  · rw [Try.params3]
    exact (.cons .one (.cons .one .nil))
theorem over : Rows.layoutRowsRow.holds Try.pinned (OpenSpec.ofChange Rows.layoutRowsSpec) :=
  OpenClaim.holds_of_wide 3 Try.f3 rfl rfl rfl rfl rfl rfl rfl ⟨rfl, rfl, rfl, rfl, rfl⟩ rfl rfl rfl rfl rfl (by kernel_rfl) Try.func3 (by kernel_rfl)
    (of_decide_eq_true (by kernel_rfl)) (by unfold Func.isWrapper; first | (rw [if_pos (by decide +kernel)]; kernel_rfl) | (rw [if_neg (by decide +kernel)]; exact ⟨rfl, rfl⟩))
    (fun os started H enc _ => lifted os started H enc)
end Go.Proofs.Ytaaopphbgbbedaa.layoutRows
namespace Go.Proofs.Ytaaopphbgbbedaa
theorem layoutRows_holds : Rows.LayoutRowsSaid := layoutRows.over
#print axioms layoutRows_holds
end Go.Proofs.Ytaaopphbgbbedaa
