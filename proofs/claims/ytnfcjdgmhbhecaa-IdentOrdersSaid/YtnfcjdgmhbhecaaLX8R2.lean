/- IdentOrders: for every input. -/
import Derived.Test.YtnfcjdgmhbhecaaRows
import Derived.WalkKit
import Derived.ProofKit
import Derived.SizedLaws
import Derived.Test.YtnfcjdgmhbhecaaLX8R1
import Derived.Test.YtnfcjdgmhbhecaaLA2
namespace Go.Proofs.Ytnfcjdgmhbhecaa.identOrders
open Go Go.Lift Go.ChangeShapes Go.WideShapes Go.RowKit
set_option linter.unusedVariables false

theorem own : ownKnob Try.prog.godebug = none := by kernel_rfl
theorem laidOut : laidOutB Try.prog = true := by kernel_rfl
theorem called (A : List IV) (h : TyA [⟨true, [.int .u64, .int .u16, .int .u32]⟩, ⟨true, [.int .u64, .int .u16, .int .u32]⟩, ⟨true, [.int .u64, .int .u16, .int .u32]⟩] A) : ∃ A', SCall Try.prog 3 A (.v (.bool true)) A' := by
  have key : ∀ {c : List IV}, Tyl [.int .u64, .int .u16, .int .u32] c → ∃ s : Int × Int × Int, argIV true c = keyIV s.1 s.2.1 s.2.2 := fun hc => by
    obtain ⟨y1, ys1, rfl, a1, hc⟩ := hc.cons_inv
    obtain ⟨y2, ys2, rfl, a2, hc⟩ := hc.cons_inv
    obtain ⟨y3, ys3, rfl, a3, hc⟩ := hc.cons_inv
    obtain rfl := hc.nil_inv
    obtain ⟨r, rfl, w1⟩ := a1.int_inv
    obtain ⟨n, rfl, w2⟩ := a2.int_inv
    obtain ⟨k, rfl, w3⟩ := a3.int_inv
    exact ⟨(r, n, k), rfl⟩
  obtain ⟨x1, B1, rfl, h1, g1⟩ := h.cons_inv
  obtain ⟨x2, B2, rfl, h2, g2⟩ := g1.cons_inv
  obtain ⟨x3, B3, rfl, h3, g3⟩ := g2.cons_inv
  obtain rfl := g3.nil_inv
  obtain ⟨a, e1⟩ := key h1
  obtain ⟨b, e2⟩ := key h2
  obtain ⟨c, e3⟩ := key h3
  rw [e1, e2, e3]
  exact ⟨_, identOrders_call a b c⟩
set_option maxRecDepth 100000 in
theorem lifted (os : Os) (started : os.Started) (H : Type) (enc : TypeId × Value → H) :
    ReturnsInHanded {} Try.checked os 3 .any (Rows.identOrdersSpec.pre6 enc Try.prog Try.f3 Rows.identOrdersRow.domain false) (Rows.identOrdersSpec.post enc Try.prog Try.f3 false true false false) := by
  refine returnsInHanded_of_change_sized (C := Try.checked) own started (by kernel_rfl) Try.func3
    (ChangeSpec.witness6 (enc := enc) (C := Try.checked) false ⟨#[], #[.agg #[(.int .u64 0), (.int .u16 0), (.int .u32 0)], .agg #[(.int .u64 0), (.int .u16 0), (.int .u32 0)], .agg #[(.int .u64 0), (.int .u16 0), (.int .u32 0)]], []⟩ 5 (by kernel_rfl) (by kernel_rfl) (by kernel_rfl) (by kernel_rfl)) ?_
  intro W base args ds gs before hval hW hcnd hsz _
  refine law_contract (tb := 4) (ps := [⟨true, [.int .u64, .int .u16, .int .u32]⟩, ⟨true, [.int .u64, .int .u16, .int .u32]⟩, ⟨true, [.int .u64, .int .u16, .int .u32]⟩]) laidOut rfl (fun ds h => ?_) rfl Try.underlying4 ?_ ?_ called W base args ds gs before hval hW
  · rw [Try.params3] at h
    rcases ds with _ | ⟨d0, _ | ⟨d1, _ | ⟨d2, _ | ⟨d3, ds⟩⟩⟩⟩ <;> first | rfl | (exfalso; simp at h)
  · rw [Try.params3]
    intro t ht
    simp only [List.mem_cons, List.not_mem_nil, or_false] at ht
    rcases ht with rfl | rfl | rfl <;> exact ⟨by kernel_rfl, of_decide_eq_true (by kernel_rfl)⟩
  · rw [Try.params3]
    exact (.agg Try.underlying26 (.struct Try.underlying26 (.cons rfl (.int Try.underlying22) (by kernel_rfl) (.cons rfl (.int Try.underlying23) (by kernel_rfl) (.cons rfl (.int Try.underlying24) (by kernel_rfl) .nil))) (by kernel_rfl)) (.agg Try.underlying26 (.struct Try.underlying26 (.cons rfl (.int Try.underlying22) (by kernel_rfl) (.cons rfl (.int Try.underlying23) (by kernel_rfl) (.cons rfl (.int Try.underlying24) (by kernel_rfl) .nil))) (by kernel_rfl)) (.agg Try.underlying26 (.struct Try.underlying26 (.cons rfl (.int Try.underlying22) (by kernel_rfl) (.cons rfl (.int Try.underlying23) (by kernel_rfl) (.cons rfl (.int Try.underlying24) (by kernel_rfl) .nil))) (by kernel_rfl)) .nil)))
theorem over : Rows.identOrdersRow.holds Try.pinned (OpenSpec.ofChange Rows.identOrdersSpec) :=
  OpenClaim.holds_of_wide 3 Try.f3 rfl rfl rfl rfl rfl rfl rfl ⟨rfl, rfl, rfl, rfl, rfl⟩ rfl rfl rfl rfl rfl (by kernel_rfl) Try.func3 (by kernel_rfl)
    (of_decide_eq_true (by kernel_rfl)) (by unfold Func.isWrapper; first | (rw [if_pos (by decide +kernel)]; kernel_rfl) | (rw [if_neg (by decide +kernel)]; exact ⟨rfl, rfl⟩))
    (fun os started H enc _ => lifted os started H enc)
end Go.Proofs.Ytnfcjdgmhbhecaa.identOrders
namespace Go.Proofs.Ytnfcjdgmhbhecaa
/-- The row, under a short name, for the claim. -/
theorem identOrders_holds : Rows.IdentOrdersSaid := identOrders.over
#print axioms identOrders_holds
end Go.Proofs.Ytnfcjdgmhbhecaa
