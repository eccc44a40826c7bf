/- SpanBytes: for every input. -/
import Derived.Test.YtffdiicflahjfaaRows
import Derived.Test.YtffdiicflahjfaaLYS7
import Derived.WalkKit
import Derived.ProofKit
import Derived.SizedLaws
namespace Go.Proofs.Ytffdiicflahjfaa.spanBytes
open Go Go.Lift Go.ChangeShapes Go.WideShapes Go.RowKit
set_option linter.unusedVariables false

theorem own : ownKnob Try.prog.godebug = none := by kernel_rfl
theorem laidOut : laidOutB Try.prog = true := by kernel_rfl
theorem called (A : List IV) (h : TyA [⟨false, [.row [.int .u16, .int .u32, .int .i64]]⟩, ⟨false, [.row [.int .u8]]⟩] A) (hwt : WtA [16, 0] A) : ∃ A', SCall Try.prog 11 A (.v (.bool true)) A' := by
  obtain ⟨x1, B1, rfl, h1, g1⟩ := h.one_inv
  obtain ⟨x2, B2, rfl, h2, g2⟩ := g1.one_inv
  obtain rfl := g2.nil_inv
  obtain ⟨l, rfl, _, hg⟩ := row_of (f := spC) (good := fun s => 0 ≤ s.1 ∧ s.1 ≤ 65535) (fun c hc => by
    obtain ⟨y1, ys1, rfl, a1, hc⟩ := hc.cons_inv
    obtain ⟨y2, ys2, rfl, a2, hc⟩ := hc.cons_inv
    obtain ⟨y3, ys3, rfl, a3, hc⟩ := hc.cons_inv
    obtain rfl := hc.nil_inv
    obtain ⟨r, rfl, w1⟩ := a1.int_inv
    obtain ⟨n, rfl, _⟩ := a2.int_inv
    obtain ⟨k, rfl, _⟩ := a3.int_inv
    exact ⟨(r, n, k), rfl, wf_u16 w1⟩) h1
  obtain ⟨t, rfl, ht⟩ := row_bytes h2
  have hb := hwt.1 _ _ rfl
  exact ⟨_, spanBytes_call l t (by unfold reachBytes at hb; omega) hg (by unfold Go.maxLen at ht; omega)⟩
set_option maxRecDepth 100000 in
theorem lifted (os : Os) (started : os.Started) (H : Type) (enc : TypeId × Value → H) :
    ReturnsInHanded {} Try.checked os 11 .any (Rows.spanBytesSpec.pre6 enc Try.prog Try.f11 Rows.spanBytesRow.domain false) (Rows.spanBytesSpec.post enc Try.prog Try.f11 false true false false) := by
  refine returnsInHanded_of_change_sized (C := Try.checked) own started (by kernel_rfl) Try.func11
    (ChangeSpec.witness6 (enc := enc) (C := Try.checked) false ⟨#[], #[.slice none 0 0, .slice none 0 0], []⟩ 5 (by kernel_rfl) (by kernel_rfl) (by kernel_rfl) (by kernel_rfl)) ?_
  intro W base args ds gs before hval hW hcnd hsz _
  refine law_contractW (bs := [16, 0]) (tb := 4) (ps := [⟨false, [.row [.int .u16, .int .u32, .int .i64]]⟩, ⟨false, [.row [.int .u8]]⟩]) laidOut rfl (fun ds h => ?_) rfl Try.underlying4 ?_ ?_ (by rw [Try.params11]; exact ⟨.inr ⟨_, Try.underlying30, by kernel_rfl⟩, .inl rfl, trivial⟩) called W base args ds gs before hval hW hsz
  · rw [Try.params11] at h
    rcases ds with _ | ⟨d0, _ | ⟨d1, _ | ⟨d2, ds⟩⟩⟩ <;> first | rfl | (exfalso; simp at h)
  · rw [Try.params11]
    intro t ht
    simp only [List.mem_cons, List.not_mem_nil, or_false] at ht
    rcases ht with rfl | rfl <;> exact ⟨by kernel_rfl, of_decide_eq_true (by kernel_rfl)⟩
  · rw [Try.params11]
    exact (.one Try.underlying30 rfl (.slice Try.underlying30 (.struct Try.underlying105 (.cons rfl (.struct Try.underlying28 (.cons rfl (.int Try.underlying25) (by kernel_rfl) (.cons rfl (.int Try.underlying26) (by kernel_rfl) .nil)) (by kernel_rfl)) (by kernel_rfl) (.cons rfl (.int Try.underlying3) (by kernel_rfl) .nil)) (by kernel_rfl)) (by kernel_rfl) (by decide)) (.one Try.underlying38 rfl (.slice Try.underlying38 (.int Try.underlying5) (by kernel_rfl) (by decide)) .nil))
theorem over : Rows.spanBytesRow.holds Try.pinned (OpenSpec.ofChange Rows.spanBytesSpec) :=
  OpenClaim.holds_of_wide 11 Try.f11 rfl rfl rfl rfl rfl rfl rfl ⟨rfl, rfl, rfl, rfl, rfl⟩ rfl rfl rfl rfl rfl (by kernel_rfl) Try.func11 (by kernel_rfl)
    (of_decide_eq_true (by kernel_rfl)) (by unfold Func.isWrapper; first | (rw [if_pos (by decide +kernel)]; kernel_rfl) | (rw [if_neg (by decide +kernel)]; exact ⟨rfl, rfl⟩))
    (fun os started H enc _ => lifted os started H enc)
end Go.Proofs.Ytffdiicflahjfaa.spanBytes
namespace Go.Proofs.Ytffdiicflahjfaa
/-- The row, under a short name, for the claim. -/
theorem spanBytes_holds : Rows.SpanBytesSaid := spanBytes.over
#print axioms spanBytes_holds
end Go.Proofs.Ytffdiicflahjfaa
