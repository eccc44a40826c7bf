/- CheckBursts: for every input. -/
import Derived.Test.YtffdiicflahjfaaRows
import Derived.Test.YtffdiicflahjfaaLYB2
import Derived.WalkKit
import Derived.ProofKit
import Derived.SizedLaws
namespace Go.Proofs.Ytffdiicflahjfaa.checkBursts
open Go Go.Lift Go.ChangeShapes Go.WideShapes Go.RowKit
set_option linter.unusedVariables false

theorem own : ownKnob Try.prog.godebug = none := by kernel_rfl
theorem laidOut : laidOutB Try.prog = true := by kernel_rfl
theorem called (A : List IV) (h : TyA [⟨false, [.row [.int .u8]]⟩, ⟨false, [.int .i64]⟩, ⟨false, [.int .u32]⟩] A) (hwt : WtA [1, 0, 0] A) : ∃ A', SCall Try.prog 6 A (.v (.bool true)) A' := by
  obtain ⟨x1, B1, rfl, h1, g1⟩ := h.one_inv
  obtain ⟨x2, B2, rfl, h2, g2⟩ := g1.one_inv
  obtain ⟨x3, B3, rfl, h3, g3⟩ := g2.one_inv
  obtain rfl := g3.nil_inv
  obtain ⟨l, rfl, hl⟩ := row_bytes h1
  obtain ⟨a, rfl, ha⟩ := h2.int_inv
  obtain ⟨f, rfl, hf⟩ := h3.int_inv
  have ha := wf_i64 ha
  have hf := wf_u32 hf
  have hb := hwt.1 _ _ rfl
  obtain ⟨f, rfl⟩ : ∃ n : Nat, f = (n : Int) := ⟨f.toNat, by omega⟩
  exact ⟨_, checkBursts_call l a f (by omega) (by unfold reachBytes at hb; omega) ha⟩
set_option maxRecDepth 100000 in
theorem lifted (os : Os) (started : os.Started) (H : Type) (enc : TypeId × Value → H) :
    ReturnsInHanded {} Try.checked os 6 .any (Rows.checkBurstsSpec.pre6 enc Try.prog Try.f6 Rows.checkBurstsRow.domain false) (Rows.checkBurstsSpec.post enc Try.prog Try.f6 false true false false) := by
  refine returnsInHanded_of_change_sized (C := Try.checked) own started (by kernel_rfl) Try.func6
    (ChangeSpec.witness6 (enc := enc) (C := Try.checked) false ⟨#[], #[.slice none 0 0, .int .i64 0, .int .u32 0], []⟩ 5 (by kernel_rfl) (by kernel_rfl) (by kernel_rfl) (by kernel_rfl)) ?_
  intro W base args ds gs before hval hW hcnd hsz _
  refine law_contractW (bs := [1, 0, 0]) (tb := 4) (ps := [⟨false, [.row [.int .u8]]⟩, ⟨false, [.int .i64]⟩, ⟨false, [.int .u32]⟩]) laidOut rfl (fun ds h => ?_) rfl Try.underlying4 ?_ ?_ (by rw [Try.params6]; exact ⟨.inr ⟨_, Try.underlying38, by kernel_rfl⟩, .inl rfl, .inl rfl, trivial⟩) called W base args ds gs before hval hW hsz
  · rw [Try.params6] at h
    rcases ds with _ | ⟨d0, _ | ⟨d1, _ | ⟨d2, _ | ⟨d3, ds⟩⟩⟩⟩ <;> first | rfl | (exfalso; simp at h)
  · rw [Try.params6]
    intro t ht
    simp only [List.mem_cons, List.not_mem_nil, or_false] at ht
    rcases ht with rfl | rfl | rfl <;> exact ⟨by kernel_rfl, of_decide_eq_true (by kernel_rfl)⟩
  · rw [Try.params6]
    exact (.one Try.underlying38 rfl (.slice Try.underlying38 (.int Try.underlying5) (by kernel_rfl) (by decide)) (.one Try.underlying3 rfl (.int Try.underlying3) (.one Try.underlying26 rfl (.int Try.underlying26) .nil)))
theorem over : Rows.checkBurstsRow.holds Try.pinned (OpenSpec.ofChange Rows.checkBurstsSpec) :=
  OpenClaim.holds_of_wide 6 Try.f6 rfl rfl rfl rfl rfl rfl rfl ⟨rfl, rfl, rfl, rfl, rfl⟩ rfl rfl rfl rfl rfl (by kernel_rfl) Try.func6 (by kernel_rfl)
    (of_decide_eq_true (by kernel_rfl)) (by unfold Func.isWrapper; first | (rw [if_pos (by decide +kernel)]; kernel_rfl) | (rw [if_neg (by decide +kernel)]; exact ⟨rfl, rfl⟩))
    (fun os started H enc _ => lifted os started H enc)
end Go.Proofs.Ytffdiicflahjfaa.checkBursts
namespace Go.Proofs.Ytffdiicflahjfaa
/-- The row, under a short name, for the claim. -/
theorem checkBursts_holds : Rows.CheckBurstsSaid := checkBursts.over
#print axioms checkBursts_holds
end Go.Proofs.Ytffdiicflahjfaa
