/- PackCuts: for every input. -/
import Derived.Test.YtffdiicflahjfaaRows
import Derived.Test.YtffdiicflahjfaaLYP9
import Derived.WalkKit
import Derived.ProofKit
import Derived.SizedLaws
namespace Go.Proofs.Ytffdiicflahjfaa.packCuts
open Go Go.Lift Go.ChangeShapes Go.WideShapes Go.RowKit
set_option linter.unusedVariables false

theorem own : ownKnob Try.prog.godebug = none := by kernel_rfl
theorem laidOut : laidOutB Try.prog = true := by kernel_rfl
theorem called (A : List IV) (h : TyA [⟨false, [.row [.int .i64, .int .u64, .str, .int .i64]]⟩, ⟨false, [.int .i64]⟩] A) : ∃ A', SCall Try.prog 9 A (.v (.bool true)) A' := by
  obtain ⟨x2, B2, rfl, h2, g2⟩ := h.one_inv
  obtain ⟨x3, B3, rfl, h3, g3⟩ := g2.one_inv
  obtain rfl := g3.nil_inv
  obtain ⟨t, rfl, _⟩ := h3.int_inv
  obtain ⟨ops, rfl, ho, hg⟩ := row_of (f := thC) (good := fun a => a.2.1 < 2 ^ 64) (fun c hc => by
    obtain ⟨y1, ys1, rfl, a1, hc⟩ := hc.cons_inv
    obtain ⟨y2, ys2, rfl, a2, hc⟩ := hc.cons_inv
    obtain ⟨y3, ys3, rfl, a3, hc⟩ := hc.cons_inv
    obtain ⟨y4, ys4, rfl, a4, hc⟩ := hc.cons_inv
    obtain rfl := hc.nil_inv
    obtain ⟨k, rfl, _⟩ := a1.int_inv
    obtain ⟨n, rfl, hn⟩ := a2.int_inv
    obtain ⟨s, rfl, _⟩ := a3.str_inv
    obtain ⟨m, rfl, _⟩ := a4.int_inv
    have hn := wf_u64 hn
    refine ⟨(k, n.toNat, s.data.toList, m), ?_, by simp only; omega⟩
    simp only [thC]
    rw [← ba_eta s, show ((n.toNat : Nat) : Int) = n by omega]) h2
  exact ⟨_, packCuts_call ops t hg ho⟩
set_option maxRecDepth 100000 in
theorem lifted (os : Os) (started : os.Started) (H : Type) (enc : TypeId × Value → H) :
    ReturnsInHanded {} Try.checked os 9 .any (Rows.packCutsSpec.pre6 enc Try.prog Try.f9 Rows.packCutsRow.domain false) (Rows.packCutsSpec.post enc Try.prog Try.f9 false true false false) := by
  refine returnsInHanded_of_change_sized (C := Try.checked) own started (by kernel_rfl) Try.func9
    (ChangeSpec.witness6 (enc := enc) (C := Try.checked) false ⟨#[], #[.slice none 0 0, .int .i64 0], []⟩ 5 (by kernel_rfl) (by kernel_rfl) (by kernel_rfl) (by kernel_rfl)) ?_
  intro W base args ds gs before hval hW hcnd hsz _
  refine law_contract (tb := 4) (ps := [⟨false, [.row [.int .i64, .int .u64, .str, .int .i64]]⟩, ⟨false, [.int .i64]⟩]) laidOut rfl (fun ds h => ?_) rfl Try.underlying4 ?_ ?_ called W base args ds gs before hval hW
  · rw [Try.params9] at h
    rcases ds with _ | ⟨d0, _ | ⟨d1, _ | ⟨d2, ds⟩⟩⟩ <;> first | rfl | (exfalso; simp at h)
  · rw [Try.params9]
    intro t ht
    simp only [List.mem_cons, List.not_mem_nil, or_false] at ht
    rcases ht with rfl | rfl <;> exact ⟨by kernel_rfl, of_decide_eq_true (by kernel_rfl)⟩
  · rw [Try.params9]
    exact (.one Try.underlying69 rfl (.slice Try.underlying69 (.struct Try.underlying72 (.cons rfl (.int Try.underlying3) (by kernel_rfl) (.cons rfl (.int Try.underlying48) (by kernel_rfl) (.cons rfl (.str Try.underlying9) (by kernel_rfl) (.cons rfl (.int Try.underlying3) (by kernel_rfl) .nil)))) (by kernel_rfl)) (by kernel_rfl) (by decide)) (.one Try.underlying3 rfl (.int Try.underlying3) .nil))
theorem over : Rows.packCutsRow.holds Try.pinned (OpenSpec.ofChange Rows.packCutsSpec) :=
  OpenClaim.holds_of_wide 9 Try.f9 rfl rfl rfl rfl rfl rfl rfl ⟨rfl, rfl, rfl, rfl, rfl⟩ rfl rfl rfl rfl rfl (by kernel_rfl) Try.func9 (by kernel_rfl)
    (of_decide_eq_true (by kernel_rfl)) (by unfold Func.isWrapper; first | (rw [if_pos (by decide +kernel)]; kernel_rfl) | (rw [if_neg (by decide +kernel)]; exact ⟨rfl, rfl⟩))
    (fun os started H enc _ => lifted os started H enc)
end Go.Proofs.Ytffdiicflahjfaa.packCuts
namespace Go.Proofs.Ytffdiicflahjfaa
/-- The row, under a short name, for the claim. -/
theorem packCuts_holds : Rows.PackCutsSaid := packCuts.over
#print axioms packCuts_holds
end Go.Proofs.Ytffdiicflahjfaa
