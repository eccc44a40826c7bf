import Derived.Test.YtclhjcbnpdlgbaaRows
import Derived.WalkKit
import Derived.ProofKit
import Derived.SizedLaws
import Derived.Test.YtclhjcbnpdlgbaaLXEEE
import Derived.Test.YtclhjcbnpdlgbaaLA3
set_option linter.unusedVariables false
set_option linter.unusedSimpArgs false
/- HoldWants: for every input. -/
namespace Go.Proofs.Ytclhjcbnpdlgbaa.holdWants
open Go Go.Lift Go.ChangeShapes Go.WideShapes Go.RowKit
set_option linter.unusedVariables false

theorem own : ownKnob Try.prog.godebug = none := by kernel_rfl
theorem laidOut : laidOutB Try.prog = true := by kernel_rfl
theorem called (A : List IV) (h : TyA [⟨false, [.row [.row [.int .u16, .int .u32], .int .u16, .int .u32, .int .u64, .int .i64, .row [.int .i64, .int .u16, .int .u32, .int .u32, .str, .row [.int .u16, .int .u32, .int .i64], .int .u32]]]⟩, ⟨false, [.row [.int .u16, .int .u32]]⟩] A) (hwt : SzA [[.row 72 [.row 8 [.no, .no], .no, .no, .no, .no, .row 72 [.no, .no, .no, .no, .no, .row 16 [.no, .no, .no], .no]]], [.row 8 [.no, .no]]] A) : ∃ A', SCallG [] Try.prog 4 A (.v (.bool true)) A' := by
  obtain ⟨x1, B1, rfl, h1, g1⟩ := h.one_inv
  obtain ⟨x2, B2, rfl, h2, g2⟩ := g1.one_inv
  obtain rfl := g2.nil_inv
  obtain ⟨l, rfl, hll, hg⟩ := envs_of h1
  obtain ⟨v, rfl, hvl, hvw⟩ := deps_of h2
  simp only [argIV, SzA, Sz1] at hwt
  have hz := hwt.1
  have hz2 := hwt.2.1
  simp only [Szl, Sz] at hz hz2
  have hz := hz.1 _ _ rfl
  have hz2 := (hz2.1 _ _ rfl).1
  have hb : reachBytes = 140737488351232 := rfl
  rw [hb] at hz2
  have hs := holdWants_call l v (envs_ge hg hz.2) hll hvw (by omega)
  exact ⟨_, fun w R vals os a b c d _ => hs w R vals os a b c d⟩
set_option maxRecDepth 100000 in
theorem lifted (os : Os) (started : os.Started) (H : Type) (enc : TypeId × Value → H) :
    ReturnsInHanded {} Try.checked os 4 .any (Rows.holdWantsSpec.pre6 enc Try.prog Try.f4 Rows.holdWantsRow.domain false) (Rows.holdWantsSpec.post enc Try.prog Try.f4 false true false false) := by
  refine returnsInHanded_of_change_sized (C := Try.checked) own started (by kernel_rfl) Try.func4
    (ChangeSpec.witness6 (enc := enc) (C := Try.checked) false ⟨#[], #[.slice none 0 0, .slice none 0 0], []⟩ 5 (by kernel_rfl) (by kernel_rfl) (by kernel_rfl) (by kernel_rfl)) ?_
  intro W base args ds gs before hval hW hcnd hsz _
  refine law_contractGW (G := []) (tb := 4) (ps := [⟨false, [.row [.row [.int .u16, .int .u32], .int .u16, .int .u32, .int .u64, .int .i64, .row [.int .i64, .int .u16, .int .u32, .int .u32, .str, .row [.int .u16, .int .u32, .int .i64], .int .u32]]]⟩, ⟨false, [.row [.int .u16, .int .u32]]⟩]) (ws := [[.row 72 [.row 8 [.no, .no], .no, .no, .no, .no, .row 72 [.no, .no, .no, .no, .no, .row 16 [.no, .no, .no], .no]]], [.row 8 [.no, .no]]]) laidOut rfl (fun ds h => ?_) rfl Try.underlying4 ?_ ?_ ?_ called W (fun x hx => by simp at hx) base args ds gs before hval hW hsz
  · rw [Try.params4] at h
    rcases ds with _ | ⟨d0, _ | ⟨d1, _ | ⟨d2, ds⟩⟩⟩ <;> first | rfl | (exfalso; simp at h)
  · rw [Try.params4]
    intro t ht
    simp only [List.mem_cons, List.not_mem_nil, or_false] at ht
    rcases ht with rfl | rfl <;> exact ⟨by kernel_rfl, of_decide_eq_true (by kernel_rfl)⟩
  · rw [Try.params4]
    exact (.one Try.underlying22 rfl (.slice Try.underlying22 (.struct Try.underlying36 (.cons rfl (.slice Try.underlying24 (.struct Try.underlying89 (.cons rfl (.int Try.underlying29) (by kernel_rfl) (.cons rfl (.int Try.underlying30) (by kernel_rfl) .nil)) (by kernel_rfl)) (by kernel_rfl) (by decide)) (by kernel_rfl) (.cons rfl (.struct Try.underlying34 (.cons rfl (.int Try.underlying29) (by kernel_rfl) (.cons rfl (.int Try.underlying30) (by kernel_rfl) (.cons rfl (.int Try.underlying31) (by kernel_rfl) (.cons rfl (.int Try.underlying3) (by kernel_rfl) (.cons rfl (.slice Try.underlying32 (.struct Try.underlying109 (.cons rfl (.int Try.underlying3) (by kernel_rfl) (.cons rfl (.struct Try.underlying106 (.cons rfl (.int Try.underlying29) (by kernel_rfl) (.cons rfl (.int Try.underlying30) (by kernel_rfl) .nil)) (by kernel_rfl)) (by kernel_rfl) (.cons rfl (.int Try.underlying30) (by kernel_rfl) (.cons rfl (.str Try.underlying9) (by kernel_rfl) (.cons rfl (.slice Try.underlying107 (.struct Try.underlying144 (.cons rfl (.struct Try.underlying106 (.cons rfl (.int Try.underlying29) (by kernel_rfl) (.cons rfl (.int Try.underlying30) (by kernel_rfl) .nil)) (by kernel_rfl)) (by kernel_rfl) (.cons rfl (.int Try.underlying3) (by kernel_rfl) .nil)) (by kernel_rfl)) (by kernel_rfl) (by decide)) (by kernel_rfl) (.cons rfl (.int Try.underlying30) (by kernel_rfl) .nil)))))) (by kernel_rfl)) (by kernel_rfl) (by decide)) (by kernel_rfl) .nil))))) (by kernel_rfl)) (by kernel_rfl) .nil)) (by kernel_rfl)) (by kernel_rfl) (by decide)) (.one Try.underlying24 rfl (.slice Try.underlying24 (.struct Try.underlying89 (.cons rfl (.int Try.underlying29) (by kernel_rfl) (.cons rfl (.int Try.underlying30) (by kernel_rfl) .nil)) (by kernel_rfl)) (by kernel_rfl) (by decide)) .nil))
  · rw [Try.params4]
    exact (.cons (.slice Try.underlying22 (by kernel_rfl) (.struct Try.underlying36 (.cons rfl (.slice Try.underlying24 (by kernel_rfl) (.struct Try.underlying89 (.cons rfl .one (by kernel_rfl) (.cons rfl .one (by kernel_rfl) .nil))) (by kernel_rfl)) (by kernel_rfl) (.cons rfl (.struct Try.underlying34 (.cons rfl .one (by kernel_rfl) (.cons rfl .one (by kernel_rfl) (.cons rfl .one (by kernel_rfl) (.cons rfl .one (by kernel_rfl) (.cons rfl (.slice Try.underlying32 (by kernel_rfl) (.struct Try.underlying109 (.cons rfl .one (by kernel_rfl) (.cons rfl (.struct Try.underlying106 (.cons rfl .one (by kernel_rfl) (.cons rfl .one (by kernel_rfl) .nil))) (by kernel_rfl) (.cons rfl .one (by kernel_rfl) (.cons rfl .one (by kernel_rfl) (.cons rfl (.slice Try.underlying107 (by kernel_rfl) (.struct Try.underlying144 (.cons rfl (.struct Try.underlying106 (.cons rfl .one (by kernel_rfl) (.cons rfl .one (by kernel_rfl) .nil))) (by kernel_rfl) (.cons rfl .one (by kernel_rfl) .nil))) (by kernel_rfl)) (by kernel_rfl) (.cons rfl .one (by kernel_rfl) .nil))))))) (by kernel_rfl)) (by kernel_rfl) .nil)))))) (by kernel_rfl) .nil))) (by kernel_rfl)) (.cons (.slice Try.underlying24 (by kernel_rfl) (.struct Try.underlying89 (.cons rfl .one (by kernel_rfl) (.cons rfl .one (by kernel_rfl) .nil))) (by kernel_rfl)) .nil))
theorem over : Rows.holdWantsRow.holds Try.pinned (OpenSpec.ofChange Rows.holdWantsSpec) :=
  OpenClaim.holds_of_wide 4 Try.f4 rfl rfl rfl rfl rfl rfl rfl ⟨rfl, rfl, rfl, rfl, rfl⟩ rfl rfl rfl rfl rfl (by kernel_rfl) Try.func4 (by kernel_rfl)
    (of_decide_eq_true (by kernel_rfl)) (by unfold Func.isWrapper; first | (rw [if_pos (by decide +kernel)]; kernel_rfl) | (rw [if_neg (by decide +kernel)]; exact ⟨rfl, rfl⟩))
    (fun os started H enc _ => lifted os started H enc)
end Go.Proofs.Ytclhjcbnpdlgbaa.holdWants
namespace Go.Proofs.Ytclhjcbnpdlgbaa
theorem holdWants_holds : Rows.HoldWantsSaid := holdWants.over
#print axioms holdWants_holds
end Go.Proofs.Ytclhjcbnpdlgbaa
