/- SpanNames: for every input. -/
import Derived.Test.YtnfcjdgmhbhecaaRows
import Derived.WalkKit
import Derived.ProofKit
import Derived.SizedLaws
import Derived.Test.YtnfcjdgmhbhecaaLX8PD
import Derived.Test.YtnfcjdgmhbhecaaLA3
namespace Go.Proofs.Ytnfcjdgmhbhecaa.spanNames
open Go Go.Lift Go.ChangeShapes Go.WideShapes Go.RowKit
set_option linter.unusedVariables false

theorem own : ownKnob Try.prog.godebug = none := by kernel_rfl
theorem laidOut : laidOutB Try.prog = true := by kernel_rfl
theorem called (A : List IV) (h : TyA [⟨false, [.row [.int .u16, .int .u32, .int .i64]]⟩, ⟨false, [.row [.int .u16, .int .u32, .int .i64]]⟩, ⟨true, [.int .u16, .int .u32]⟩, ⟨false, [.int .i64]⟩] A) (hwt : WtA [16, 16, 0, 0] A) : ∃ A', SCall Try.prog 7 A (.v (.bool true)) A' := by
  have key : ∀ {c : List IV}, Tyl [.int .u16, .int .u32, .int .i64] c → ∃ s : Sp, c = spC s ∧ True := fun hc => by
    obtain ⟨y1, ys1, rfl, a1, hc⟩ := hc.cons_inv
    obtain ⟨y2, ys2, rfl, a2, hc⟩ := hc.cons_inv
    obtain ⟨y3, ys3, rfl, a3, hc⟩ := hc.cons_inv
    obtain rfl := hc.nil_inv
    obtain ⟨r, rfl, w1⟩ := a1.int_inv
    obtain ⟨n, rfl, w2⟩ := a2.int_inv
    obtain ⟨k, rfl, w3⟩ := a3.int_inv
    exact ⟨(r, n, k), rfl, trivial⟩
  obtain ⟨x1, B1, rfl, h1, g1⟩ := h.one_inv
  obtain ⟨x2, B2, rfl, h2, g2⟩ := g1.one_inv
  obtain ⟨xs, B3, rfl, h3, g3⟩ := g2.cons_inv
  obtain ⟨x4, B4, rfl, h4, g4⟩ := g3.one_inv
  obtain rfl := g4.nil_inv
  obtain ⟨l, rfl, _, _⟩ := row_of (f := spC) (good := fun _ => True) (fun c hc => key hc) h1
  obtain ⟨W, rfl, _, _⟩ := row_of (f := spC) (good := fun _ => True) (fun c hc => key hc) h2
  obtain ⟨y1, ys1, rfl, a1, hc⟩ := h3.cons_inv
  obtain ⟨y2, ys2, rfl, a2, hc⟩ := hc.cons_inv
  obtain rfl := hc.nil_inv
  obtain ⟨r, rfl, _⟩ := a1.int_inv
  obtain ⟨n, rfl, _⟩ := a2.int_inv
  obtain ⟨k, rfl, _⟩ := h4.int_inv
  have hb := hwt.1 _ _ rfl
  have hb2 := hwt.2.1 _ _ rfl
  exact ⟨_, spanNames_call l W r n k (by unfold reachBytes at hb; omega) (by unfold reachBytes at hb2; omega)⟩
set_option maxRecDepth 100000 in
theorem lifted (os : Os) (started : os.Started) (H : Type) (enc : TypeId × Value → H) :
    ReturnsInHanded {} Try.checked os 7 .any (Rows.spanNamesSpec.pre6 enc Try.prog Try.f7 Rows.spanNamesRow.domain false) (Rows.spanNamesSpec.post enc Try.prog Try.f7 false true false false) := by
  refine returnsInHanded_of_change_sized (C := Try.checked) own started (by kernel_rfl) Try.func7
    (ChangeSpec.witness6 (enc := enc) (C := Try.checked) false ⟨#[], #[.slice none 0 0, .slice none 0 0, .agg #[(.int .u16 0), (.int .u32 0)], .int .i64 0], []⟩ 5 (by kernel_rfl) (by kernel_rfl) (by kernel_rfl) (by kernel_rfl)) ?_
  intro W base args ds gs before hval hW hcnd hsz _
  refine law_contractW (bs := [16, 16, 0, 0]) (tb := 4) (ps := [⟨false, [.row [.int .u16, .int .u32, .int .i64]]⟩, ⟨false, [.row [.int .u16, .int .u32, .int .i64]]⟩, ⟨true, [.int .u16, .int .u32]⟩, ⟨false, [.int .i64]⟩]) laidOut rfl (fun ds h => ?_) rfl Try.underlying4 ?_ ?_ (by rw [Try.params7]; exact ⟨.inr ⟨_, Try.underlying51, by kernel_rfl⟩, .inr ⟨_, Try.underlying51, by kernel_rfl⟩, .inl rfl, .inl rfl, trivial⟩) called W base args ds gs before hval hW hsz
  · rw [Try.params7] at h
    rcases ds with _ | ⟨d0, _ | ⟨d1, _ | ⟨d2, _ | ⟨d3, _ | ⟨d4, ds⟩⟩⟩⟩⟩ <;> first | rfl | (exfalso; simp at h)
  · rw [Try.params7]
    intro t ht
    simp only [List.mem_cons, List.not_mem_nil, or_false] at ht
    rcases ht with rfl | rfl | rfl | rfl <;> exact ⟨by kernel_rfl, of_decide_eq_true (by kernel_rfl)⟩
  · rw [Try.params7]
    exact (.one Try.underlying51 rfl (.slice Try.underlying51 (.struct Try.underlying53 (.cons rfl (.struct Try.underlying31 (.cons rfl (.int Try.underlying23) (by kernel_rfl) (.cons rfl (.int Try.underlying24) (by kernel_rfl) .nil)) (by kernel_rfl)) (by kernel_rfl) (.cons rfl (.int Try.underlying3) (by kernel_rfl) .nil)) (by kernel_rfl)) (by kernel_rfl) (by decide)) (.one Try.underlying51 rfl (.slice Try.underlying51 (.struct Try.underlying53 (.cons rfl (.struct Try.underlying31 (.cons rfl (.int Try.underlying23) (by kernel_rfl) (.cons rfl (.int Try.underlying24) (by kernel_rfl) .nil)) (by kernel_rfl)) (by kernel_rfl) (.cons rfl (.int Try.underlying3) (by kernel_rfl) .nil)) (by kernel_rfl)) (by kernel_rfl) (by decide)) (.agg Try.underlying31 (.struct Try.underlying31 (.cons rfl (.int Try.underlying23) (by kernel_rfl) (.cons rfl (.int Try.underlying24) (by kernel_rfl) .nil)) (by kernel_rfl)) (.one Try.underlying3 rfl (.int Try.underlying3) .nil))))
theorem over : Rows.spanNamesRow.holds Try.pinned (OpenSpec.ofChange Rows.spanNamesSpec) :=
  OpenClaim.holds_of_wide 7 Try.f7 rfl rfl rfl rfl rfl rfl rfl ⟨rfl, rfl, rfl, rfl, rfl⟩ rfl rfl rfl rfl rfl (by kernel_rfl) Try.func7 (by kernel_rfl)
    (of_decide_eq_true (by kernel_rfl)) (by unfold Func.isWrapper; first | (rw [if_pos (by decide +kernel)]; kernel_rfl) | (rw [if_neg (by decide +kernel)]; exact ⟨rfl, rfl⟩))
    (fun os started H enc _ => lifted os started H enc)
end Go.Proofs.Ytnfcjdgmhbhecaa.spanNames
namespace Go.Proofs.Ytnfcjdgmhbhecaa
/-- The row, under a short name, for the claim. -/
theorem spanNames_holds : Rows.SpanNamesSaid := spanNames.over
#print axioms spanNames_holds
end Go.Proofs.Ytnfcjdgmhbhecaa
