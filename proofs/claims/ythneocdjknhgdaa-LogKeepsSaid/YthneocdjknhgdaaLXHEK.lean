import Derived.Test.YthneocdjknhgdaaRows
import Derived.WalkKit
import Derived.ProofKit
import Derived.SizedLaws
import Derived.Test.YthneocdjknhgdaaLXHE9
import Derived.Test.YthneocdjknhgdaaLA3
set_option linter.unusedVariables false
set_option linter.unusedSimpArgs false
/- LogKeeps: for every input. -/
namespace Go.Proofs.Ythneocdjknhgdaa.logKeeps
open Go Go.Lift Go.ChangeShapes Go.WideShapes Go.RowKit
set_option linter.unusedVariables false

theorem own : ownKnob Try.prog.godebug = none := by kernel_rfl
theorem laidOut : laidOutB Try.prog = true := by kernel_rfl
theorem called (A : List IV) (h : TyA [⟨false, [.row [.int .u16, .int .u32, .row [.int .u8]]]⟩, ⟨true, [.int .u16, .int .u32]⟩, ⟨false, [.int .i64]⟩] A) : ∃ A', SCall Try.prog 4 A (.v (.bool true)) A' := by
  have puts_of : ∀ {x : IV}, Ty (.row [.int .u16, .int .u32, .row [.int .u8]]) x → ∃ ps : List PuV, x = .tr ps.length (encs puC ps) ∧ ∀ p ∈ ps, okP p := fun {x} h => by
    obtain ⟨l, h1, _, h3⟩ := row_of (f := puC) (good := okP) (fun c hc => by
      obtain ⟨y1, ys1, rfl, a1, hc⟩ := hc.cons_inv
      obtain ⟨y2, ys2, rfl, a2, hc⟩ := hc.cons_inv
      obtain ⟨y3, ys3, rfl, a3, hc⟩ := hc.cons_inv
      obtain rfl := hc.nil_inv
      obtain ⟨r, rfl, w1⟩ := a1.int_inv
      obtain ⟨n, rfl, w2⟩ := a2.int_inv
      obtain ⟨b, rfl, _⟩ := row_bytes a3
      exact ⟨⟨r, n, b⟩, rfl, wf_u16 w1, wf_u32 w2⟩) h
    exact ⟨l, h1, h3⟩
  have id_of : ∀ {c : List IV}, Tyl [.int .u16, .int .u32] c → ∃ R N : Int, argIV true c = idI R N ∧ rok R ∧ sok N := fun {c} hc => by
    obtain ⟨y1, ys1, rfl, a1, hc⟩ := hc.cons_inv
    obtain ⟨y2, ys2, rfl, a2, hc⟩ := hc.cons_inv
    obtain rfl := hc.nil_inv
    obtain ⟨r, rfl, w1⟩ := a1.int_inv
    obtain ⟨n, rfl, w2⟩ := a2.int_inv
    exact ⟨r, n, rfl, wf_u16 w1, wf_u32 w2⟩
  obtain ⟨x1, B1, rfl, h1, g1⟩ := h.one_inv
  obtain ⟨x2, B2, rfl, h2, g2⟩ := g1.cons_inv
  obtain ⟨x3, B3, rfl, h3, g3⟩ := g2.one_inv
  obtain rfl := g3.nil_inv
  obtain ⟨ps, rfl, hp⟩ := puts_of h1
  obtain ⟨R, N, e2, hR, hN⟩ := id_of h2
  obtain ⟨m, rfl, _⟩ := h3.int_inv
  rw [e2]
  exact ⟨_, keeps_call ps R N m hp hR hN⟩
set_option maxRecDepth 100000 in
theorem lifted (os : Os) (started : os.Started) (H : Type) (enc : TypeId × Value → H) :
    ReturnsInHanded {} Try.checked os 4 .any (Rows.logKeepsSpec.pre6 enc Try.prog Try.f4 Rows.logKeepsRow.domain false) (Rows.logKeepsSpec.post enc Try.prog Try.f4 false true false false) := by
  refine returnsInHanded_of_change_sized (C := Try.checked) own started (by kernel_rfl) Try.func4
    (ChangeSpec.witness6 (enc := enc) (C := Try.checked) false ⟨#[], #[.slice none 0 0, .agg #[(.int .u16 0), (.int .u32 0)], .int .i64 0], []⟩ 5 (by kernel_rfl) (by kernel_rfl) (by kernel_rfl) (by kernel_rfl)) ?_
  intro W base args ds gs before hval hW hcnd hsz _
  refine law_contract (tb := 4) (ps := [⟨false, [.row [.int .u16, .int .u32, .row [.int .u8]]]⟩, ⟨true, [.int .u16, .int .u32]⟩, ⟨false, [.int .i64]⟩]) laidOut rfl (fun ds h => ?_) rfl Try.underlying4 ?_ ?_ called W base args ds gs before hval hW
  · rw [Try.params4] at h
    rcases ds with _ | ⟨d0, _ | ⟨d1, _ | ⟨d2, _ | ⟨d3, ds⟩⟩⟩⟩ <;> first | rfl | (exfalso; simp at h)
  · rw [Try.params4]
    intro t ht
    simp only [List.mem_cons, List.not_mem_nil, or_false] at ht
    rcases ht with rfl | rfl | rfl <;> exact ⟨by kernel_rfl, of_decide_eq_true (by kernel_rfl)⟩
  · rw [Try.params4]
    exact (.one Try.underlying22 rfl (.slice Try.underlying22 (.struct Try.underlying37 (.cons rfl (.struct Try.underlying34 (.cons rfl (.int Try.underlying23) (by kernel_rfl) (.cons rfl (.int Try.underlying24) (by kernel_rfl) .nil)) (by kernel_rfl)) (by kernel_rfl) (.cons rfl (.slice Try.underlying35 (.int Try.underlying5) (by kernel_rfl) (by decide)) (by kernel_rfl) .nil)) (by kernel_rfl)) (by kernel_rfl) (by decide)) (.agg Try.underlying34 (.struct Try.underlying34 (.cons rfl (.int Try.underlying23) (by kernel_rfl) (.cons rfl (.int Try.underlying24) (by kernel_rfl) .nil)) (by kernel_rfl)) (.one Try.underlying3 rfl (.int Try.underlying3) .nil)))
theorem over : Rows.logKeepsRow.holds Try.pinned (OpenSpec.ofChange Rows.logKeepsSpec) :=
  OpenClaim.holds_of_wide 4 Try.f4 rfl rfl rfl rfl rfl rfl rfl ⟨rfl, rfl, rfl, rfl, rfl⟩ rfl rfl rfl rfl rfl (by kernel_rfl) Try.func4 (by kernel_rfl)
    (of_decide_eq_true (by kernel_rfl)) (by unfold Func.isWrapper; first | (rw [if_pos (by decide +kernel)]; kernel_rfl) | (rw [if_neg (by decide +kernel)]; exact ⟨rfl, rfl⟩))
    (fun os started H enc _ => lifted os started H enc)
end Go.Proofs.Ythneocdjknhgdaa.logKeeps
namespace Go.Proofs.Ythneocdjknhgdaa
theorem logKeeps_holds : Rows.LogKeepsSaid := logKeeps.over
#print axioms logKeeps_holds
end Go.Proofs.Ythneocdjknhgdaa
