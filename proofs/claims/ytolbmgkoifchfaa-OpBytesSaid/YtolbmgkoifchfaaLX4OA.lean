/- OpBytes: for every input. -/
import Derived.Test.YtolbmgkoifchfaaRows
import Derived.WalkKit
import Derived.ProofKit
import Derived.SizedLaws
import Derived.Test.YtolbmgkoifchfaaLX4O9
namespace Go.Proofs.Ytolbmgkoifchfaa.opBytes
open Go Go.Lift Go.ChangeShapes Go.WideShapes Go.RowKit
set_option linter.unusedVariables false

theorem own : ownKnob Try.prog.godebug = none := by kernel_rfl
theorem laidOut : laidOutB Try.prog = true := by kernel_rfl
theorem called (A : List IV) (h : TyA [⟨true, [.int .i64, .int .u16, .int .u32, .int .u32, .str, .row [.int .u16, .int .u32, .int .i64], .int .u32]⟩] A) : ∃ A', SCall Try.prog 4 A (.v (.bool true)) A' := by
  obtain ⟨xs, B1, rfl, h1, g1⟩ := h.cons_inv
  obtain rfl := g1.nil_inv
  obtain ⟨y1, ys1, rfl, a1, h1⟩ := h1.cons_inv
  obtain ⟨y2, ys2, rfl, a2, h1⟩ := h1.cons_inv
  obtain ⟨y3, ys3, rfl, a3, h1⟩ := h1.cons_inv
  obtain ⟨y4, ys4, rfl, a4, h1⟩ := h1.cons_inv
  obtain ⟨y5, ys5, rfl, a5, h1⟩ := h1.cons_inv
  obtain ⟨y6, ys6, rfl, a6, h1⟩ := h1.cons_inv
  obtain ⟨y7, ys7, rfl, a7, h1⟩ := h1.cons_inv
  obtain rfl := h1.nil_inv
  obtain ⟨k, rfl, w1⟩ := a1.int_inv
  obtain ⟨r, rfl, w2⟩ := a2.int_inv
  obtain ⟨n, rfl, w3⟩ := a3.int_inv
  obtain ⟨m, rfl, w4⟩ := a4.int_inv
  obtain ⟨t, rfl, w5⟩ := a5.str_inv
  obtain ⟨q, rfl, w7⟩ := a7.int_inv
  obtain ⟨l, rfl, hl, hg⟩ := row_of (f := spC) (good := fun s => 0 ≤ s.1 ∧ s.1 ≤ 65535) (fun c hc => by
    obtain ⟨y1, ys1, rfl, a1, hc⟩ := hc.cons_inv
    obtain ⟨y2, ys2, rfl, a2, hc⟩ := hc.cons_inv
    obtain ⟨y3, ys3, rfl, a3, hc⟩ := hc.cons_inv
    obtain rfl := hc.nil_inv
    obtain ⟨r, rfl, w1⟩ := a1.int_inv
    obtain ⟨n, rfl, _⟩ := a2.int_inv
    obtain ⟨k, rfl, _⟩ := a3.int_inv
    exact ⟨(r, n, k), rfl, wf_u16 w1⟩) a6
  rw [ba_eta t]
  have v2 := wf_u16 w2
  have v3 := wf_u32 w3
  have v4 := wf_u32 w4
  have v7 := wf_u32 w7
  exact ⟨_, opBytes_call k r n m q t.data.toList l (by unfold Go.maxLen at hl; omega) v2 (by omega) (by omega) (by omega) (by unfold Go.maxLen at w5; simpa using w5) hg⟩
set_option maxRecDepth 100000 in
theorem lifted (os : Os) (started : os.Started) (H : Type) (enc : TypeId × Value → H) :
    ReturnsInHanded {} Try.checked os 4 .any (Rows.opBytesSpec.pre6 enc Try.prog Try.f4 Rows.opBytesRow.domain false) (Rows.opBytesSpec.post enc Try.prog Try.f4 false true false false) := by
  refine returnsInHanded_of_change_sized (C := Try.checked) own started (by kernel_rfl) Try.func4
    (ChangeSpec.witness6 (enc := enc) (C := Try.checked) false ⟨#[], #[.agg #[(.int .i64 0), (.int .u16 0), (.int .u32 0), (.int .u32 0), (.string ⟨#[]⟩), (.slice none 0 0), (.int .u32 0)]], []⟩ 5 (by kernel_rfl) (by kernel_rfl) (by kernel_rfl) (by kernel_rfl)) ?_
  intro W base args ds gs before hval hW hcnd hsz _
  refine law_contract (tb := 4) (ps := [⟨true, [.int .i64, .int .u16, .int .u32, .int .u32, .str, .row [.int .u16, .int .u32, .int .i64], .int .u32]⟩]) laidOut rfl (fun ds h => ?_) rfl Try.underlying4 ?_ ?_ called W base args ds gs before hval hW
  · rw [Try.params4] at h
    rcases ds with _ | ⟨d0, _ | ⟨d1, ds⟩⟩ <;> first | rfl | (exfalso; simp at h)
  · rw [Try.params4]
    intro t ht
    simp only [List.mem_cons, List.not_mem_nil, or_false] at ht
    rcases ht with rfl <;> exact ⟨by kernel_rfl, of_decide_eq_true (by kernel_rfl)⟩
  · rw [Try.params4]
    exact (.agg Try.underlying32 (.struct Try.underlying32 (.cons rfl (.int Try.underlying3) (by kernel_rfl) (.cons rfl (.struct Try.underlying29 (.cons rfl (.int Try.underlying26) (by kernel_rfl) (.cons rfl (.int Try.underlying27) (by kernel_rfl) .nil)) (by kernel_rfl)) (by kernel_rfl) (.cons rfl (.int Try.underlying27) (by kernel_rfl) (.cons rfl (.str Try.underlying9) (by kernel_rfl) (.cons rfl (.slice Try.underlying30 (.struct Try.underlying73 (.cons rfl (.struct Try.underlying29 (.cons rfl (.int Try.underlying26) (by kernel_rfl) (.cons rfl (.int Try.underlying27) (by kernel_rfl) .nil)) (by kernel_rfl)) (by kernel_rfl) (.cons rfl (.int Try.underlying3) (by kernel_rfl) .nil)) (by kernel_rfl)) (by kernel_rfl) (by decide)) (by kernel_rfl) (.cons rfl (.int Try.underlying27) (by kernel_rfl) .nil)))))) (by kernel_rfl)) .nil)
theorem over : Rows.opBytesRow.holds Try.pinned (OpenSpec.ofChange Rows.opBytesSpec) :=
  OpenClaim.holds_of_wide 4 Try.f4 rfl rfl rfl rfl rfl rfl rfl ⟨rfl, rfl, rfl, rfl, rfl⟩ rfl rfl rfl rfl rfl (by kernel_rfl) Try.func4 (by kernel_rfl)
    (of_decide_eq_true (by kernel_rfl)) (by unfold Func.isWrapper; first | (rw [if_pos (by decide +kernel)]; kernel_rfl) | (rw [if_neg (by decide +kernel)]; exact ⟨rfl, rfl⟩))
    (fun os started H enc _ => lifted os started H enc)
end Go.Proofs.Ytolbmgkoifchfaa.opBytes
namespace Go.Proofs.Ytolbmgkoifchfaa
/-- The row, under a short name, for the claim. -/
theorem opBytes_holds : Rows.OpBytesSaid := opBytes.over
#print axioms opBytes_holds
end Go.Proofs.Ytolbmgkoifchfaa
