import Derived.Test.YtclhjcbnpdlgbaaRows
import Derived.WalkKit
import Derived.ProofKit
import Derived.SizedLaws
import Derived.Test.YtclhjcbnpdlgbaaLXEED
import Derived.Test.YtclhjcbnpdlgbaaLXEEK
import Derived.Test.YtclhjcbnpdlgbaaLA3
set_option linter.unusedVariables false
set_option linter.unusedSimpArgs false
/- HoldPlays: for every input. -/
namespace Go.Proofs.Ytclhjcbnpdlgbaa
open Go Go.Lift Go.ChangeShapes Go.WideShapes Go.RowKit
set_option linter.unusedVariables false
theorem plays_of {x : IV} (h : Ty (.row [.int .i64, .row [.int .u16, .int .u32], .int .u16, .int .u32, .int .u64, .int .i64, .row [.int .i64, .int .u16, .int .u32, .int .u32, .str, .row [.int .u16, .int .u32, .int .i64], .int .u32], .row [.int .u16, .int .u32]]) x) :
    ∃ l : List PlO, x = .tr l.length (encs plC l) ∧ l.length ≤ 9223372036854775807 ∧ ∀ o ∈ l, (wfD o.e.d ∧ nb o.e ∧ ∀ p ∈ o.e.ops, (wfC p ∧ (0 ≤ p.r ∧ p.r ≤ 65535) ∧ ∀ x ∈ p.s, 0 ≤ x.1 ∧ x.1 ≤ 65535) ∧ p.t.length ≤ 9223372036854775807 ∧ p.s.length ≤ 9223372036854775807) ∧ wfD o.h := by
  obtain ⟨l, h1, h2, h3⟩ := row_of (f := plC) (good := fun o => (wfD o.e.d ∧ nb o.e ∧ ∀ p ∈ o.e.ops, (wfC p ∧ (0 ≤ p.r ∧ p.r ≤ 65535) ∧ ∀ x ∈ p.s, 0 ≤ x.1 ∧ x.1 ≤ 65535) ∧ p.t.length ≤ 9223372036854775807 ∧ p.s.length ≤ 9223372036854775807) ∧ wfD o.h) (fun c h1 => by
    obtain ⟨yk, ysk, rfl, ak, h1⟩ := h1.cons_inv
    obtain ⟨y0, ys0, rfl, a0, h1⟩ := h1.cons_inv
    obtain ⟨y1, ys1, rfl, a1, h1⟩ := h1.cons_inv
    obtain ⟨y2, ys2, rfl, a2, h1⟩ := h1.cons_inv
    obtain ⟨y3, ys3, rfl, a3, h1⟩ := h1.cons_inv
    obtain ⟨y4, ys4, rfl, a4, h1⟩ := h1.cons_inv
    obtain ⟨y5, ys5, rfl, a5, h1⟩ := h1.cons_inv
    obtain ⟨y6, ys6, rfl, a6, h1⟩ := h1.cons_inv
    obtain rfl := h1.nil_inv
    obtain ⟨k, rfl, wk⟩ := ak.int_inv
    obtain ⟨d, rfl, hdl, hdw⟩ := deps_of a0
    obtain ⟨r, rfl, w1⟩ := a1.int_inv
    obtain ⟨s, rfl, w2⟩ := a2.int_inv
    obtain ⟨c, rfl, w3⟩ := a3.int_inv
    obtain ⟨u, rfl, w4⟩ := a4.int_inv
    obtain ⟨ops, rfl, hg⟩ := ops_of a5
    obtain ⟨v, rfl, hvl, hvw⟩ := deps_of a6
    exact ⟨⟨k, ⟨d, r, s, c, u, ops⟩, v⟩, rfl, ⟨hdw, ⟨wf_u16 w1, wf_u32 w2⟩, hg⟩, hvw⟩) h
  exact ⟨l, h1, by unfold Go.maxLen at h2; omega, h3⟩
end Go.Proofs.Ytclhjcbnpdlgbaa
namespace Go.Proofs.Ytclhjcbnpdlgbaa.holdPlays
open Go Go.Lift Go.ChangeShapes Go.WideShapes Go.RowKit
set_option linter.unusedVariables false

theorem own : ownKnob Try.prog.godebug = none := by kernel_rfl
theorem laidOut : laidOutB Try.prog = true := by kernel_rfl
theorem called (A : List IV) (h : TyA [⟨false, [.row [.int .i64, .row [.int .u16, .int .u32], .int .u16, .int .u32, .int .u64, .int .i64, .row [.int .i64, .int .u16, .int .u32, .int .u32, .str, .row [.int .u16, .int .u32, .int .i64], .int .u32], .row [.int .u16, .int .u32]]]⟩, ⟨false, [.row [.int .u16, .int .u32]]⟩] A) (hwt : SzA [[.row 104 [.no, .row 8 [.no, .no], .no, .no, .no, .no, .row 72 [.no, .no, .no, .no, .no, .row 16 [.no, .no, .no], .no], .row 8 [.no, .no]]], [.row 8 [.no, .no]]] A) : ∃ A', SCallG [] Try.prog 5 A (.v (.bool true)) A' := by
  obtain ⟨x1, B1, rfl, h1, g1⟩ := h.one_inv
  obtain ⟨x2, B2, rfl, h2, g2⟩ := g1.one_inv
  obtain rfl := g2.nil_inv
  obtain ⟨l, rfl, hll, hg⟩ := plays_of h1
  obtain ⟨v, rfl, hvl, hvw⟩ := deps_of h2
  simp only [argIV, SzA, Sz1] at hwt
  have hz := hwt.1
  have hz2 := hwt.2.1
  simp only [Szl, Sz] at hz hz2
  have hz := hz.1 _ _ rfl
  have hz2 := (hz2.1 _ _ rfl).1
  have hb : reachBytes = 140737488351232 := rfl
  rw [hb] at hz2
  have hs := holdPlays_call l v (fun o ho => by
    obtain ⟨⟨g1, g2, g3⟩, g4⟩ := hg o ho
    obtain ⟨i, hi, rfl⟩ := List.mem_iff_getElem.1 ho
    have h2 := hz.2 i hi
    rw [show (([.no, .row 8 [.no, .no], .no, .no, .no, .no, .row 72 [.no, .no, .no, .no, .no, .row 16 [.no, .no, .no], .no], .row 8 [.no, .no]] : List WSh).length) = 8 from rfl, encs_at plC_length (List.getElem?_eq_getElem hi)] at h2
    simp only [plC, Szl, Sz] at h2
    have k0 := (h2.2.1 _ _ rfl).1
    have k1 := h2.2.2.2.2.2.2.1 _ _ rfl
    have k2 := (h2.2.2.2.2.2.2.2.1 _ _ rfl).1
    rw [hb] at k0 k1 k2
    refine ⟨⟨g1, g2, fun o ho => (g3 o ho).1.1, by omega, by omega, fun o ho => ?_, fun o ho => (g3 o ho).2⟩, g4, by omega⟩
    obtain ⟨j, hj, rfl⟩ := List.mem_iff_getElem.1 ho
    have k3 := k1.2 j hj
    rw [show (([.no, .no, .no, .no, .no, .row 16 [.no, .no, .no], .no] : List WSh).length) = 7 from rfl, encs_at opC_length (List.getElem?_eq_getElem hj)] at k3
    simp only [opC, opL, Szl, Sz] at k3
    have := (k3.2.2.2.2.2.1 _ _ rfl).1
    omega) hll hvw (by omega)
  exact ⟨_, fun w R vals os a b c d _ => hs w R vals os a b c d⟩
set_option maxRecDepth 100000 in
theorem lifted (os : Os) (started : os.Started) (H : Type) (enc : TypeId × Value → H) :
    ReturnsInHanded {} Try.checked os 5 .any (Rows.holdPlaysSpec.pre6 enc Try.prog Try.f5 Rows.holdPlaysRow.domain false) (Rows.holdPlaysSpec.post enc Try.prog Try.f5 false true false false) := by
  refine returnsInHanded_of_change_sized (C := Try.checked) own started (by kernel_rfl) Try.func5
    (ChangeSpec.witness6 (enc := enc) (C := Try.checked) false ⟨#[], #[.slice none 0 0, .slice none 0 0], []⟩ 5 (by kernel_rfl) (by kernel_rfl) (by kernel_rfl) (by kernel_rfl)) ?_
  intro W base args ds gs before hval hW hcnd hsz _
  refine law_contractGW (G := []) (tb := 4) (ps := [⟨false, [.row [.int .i64, .row [.int .u16, .int .u32], .int .u16, .int .u32, .int .u64, .int .i64, .row [.int .i64, .int .u16, .int .u32, .int .u32, .str, .row [.int .u16, .int .u32, .int .i64], .int .u32], .row [.int .u16, .int .u32]]]⟩, ⟨false, [.row [.int .u16, .int .u32]]⟩]) (ws := [[.row 104 [.no, .row 8 [.no, .no], .no, .no, .no, .no, .row 72 [.no, .no, .no, .no, .no, .row 16 [.no, .no, .no], .no], .row 8 [.no, .no]]], [.row 8 [.no, .no]]]) laidOut rfl (fun ds h => ?_) rfl Try.underlying4 ?_ ?_ ?_ called W (fun x hx => by simp at hx) base args ds gs before hval hW hsz
  · rw [Try.params5] at h
    rcases ds with _ | ⟨d0, _ | ⟨d1, _ | ⟨d2, ds⟩⟩⟩ <;> first | rfl | (exfalso; simp at h)
  · rw [Try.params5]
    intro t ht
    simp only [List.mem_cons, List.not_mem_nil, or_false] at ht
    rcases ht with rfl | rfl <;> exact ⟨by kernel_rfl, of_decide_eq_true (by kernel_rfl)⟩
  · rw [Try.params5]
    exact (.one Try.underlying69 rfl (.slice Try.underlying69 (.struct Try.underlying72 (.cons rfl (.int Try.underlying3) (by kernel_rfl) (.cons rfl (.struct Try.underlying36 (.cons rfl (.slice Try.underlying24 (.struct Try.underlying89 (.cons rfl (.int Try.underlying29) (by kernel_rfl) (.cons rfl (.int Try.underlying30) (by kernel_rfl) .nil)) (by kernel_rfl)) (by kernel_rfl) (by decide)) (by kernel_rfl) (.cons rfl (.struct Try.underlying34 (.cons rfl (.int Try.underlying29) (by kernel_rfl) (.cons rfl (.int Try.underlying30) (by kernel_rfl) (.cons rfl (.int Try.underlying31) (by kernel_rfl) (.cons rfl (.int Try.underlying3) (by kernel_rfl) (.cons rfl (.slice Try.underlying32 (.struct Try.underlying109 (.cons rfl (.int Try.underlying3) (by kernel_rfl) (.cons rfl (.struct Try.underlying106 (.cons rfl (.int Try.underlying29) (by kernel_rfl) (.cons rfl (.int Try.underlying30) (by kernel_rfl) .nil)) (by kernel_rfl)) (by kernel_rfl) (.cons rfl (.int Try.underlying30) (by kernel_rfl) (.cons rfl (.str Try.underlying9) (by kernel_rfl) (.cons rfl (.slice Try.underlying107 (.struct Try.underlying144 (.cons rfl (.struct Try.underlying106 (.cons rfl (.int Try.underlying29) (by kernel_rfl) (.cons rfl (.int Try.underlying30) (by kernel_rfl) .nil)) (by kernel_rfl)) (by kernel_rfl) (.cons rfl (.int Try.underlying3) (by kernel_rfl) .nil)) (by kernel_rfl)) (by kernel_rfl) (by decide)) (by kernel_rfl) (.cons rfl (.int Try.underlying30) (by kernel_rfl) .nil)))))) (by kernel_rfl)) (by kernel_rfl) (by decide)) (by kernel_rfl) .nil))))) (by kernel_rfl)) (by kernel_rfl) .nil)) (by kernel_rfl)) (by kernel_rfl) (.cons rfl (.slice Try.underlying24 (.struct Try.underlying89 (.cons rfl (.int Try.underlying29) (by kernel_rfl) (.cons rfl (.int Try.underlying30) (by kernel_rfl) .nil)) (by kernel_rfl)) (by kernel_rfl) (by decide)) (by kernel_rfl) .nil))) (by kernel_rfl)) (by kernel_rfl) (by decide)) (.one Try.underlying24 rfl (.slice Try.underlying24 (.struct Try.underlying89 (.cons rfl (.int Try.underlying29) (by kernel_rfl) (.cons rfl (.int Try.underlying30) (by kernel_rfl) .nil)) (by kernel_rfl)) (by kernel_rfl) (by decide)) .nil))
  · rw [Try.params5]
    exact (.cons (.slice Try.underlying69 (by kernel_rfl) (.struct Try.underlying72 (.cons rfl .one (by kernel_rfl) (.cons rfl (.struct Try.underlying36 (.cons rfl (.slice Try.underlying24 (by kernel_rfl) (.struct Try.underlying89 (.cons rfl .one (by kernel_rfl) (.cons rfl .one (by kernel_rfl) .nil))) (by kernel_rfl)) (by kernel_rfl) (.cons rfl (.struct Try.underlying34 (.cons rfl .one (by kernel_rfl) (.cons rfl .one (by kernel_rfl) (.cons rfl .one (by kernel_rfl) (.cons rfl .one (by kernel_rfl) (.cons rfl (.slice Try.underlying32 (by kernel_rfl) (.struct Try.underlying109 (.cons rfl .one (by kernel_rfl) (.cons rfl (.struct Try.underlying106 (.cons rfl .one (by kernel_rfl) (.cons rfl .one (by kernel_rfl) .nil))) (by kernel_rfl) (.cons rfl .one (by kernel_rfl) (.cons rfl .one (by kernel_rfl) (.cons rfl (.slice Try.underlying107 (by kernel_rfl) (.struct Try.underlying144 (.cons rfl (.struct Try.underlying106 (.cons rfl .one (by kernel_rfl) (.cons rfl .one (by kernel_rfl) .nil))) (by kernel_rfl) (.cons rfl .one (by kernel_rfl) .nil))) (by kernel_rfl)) (by kernel_rfl) (.cons rfl .one (by kernel_rfl) .nil))))))) (by kernel_rfl)) (by kernel_rfl) .nil)))))) (by kernel_rfl) .nil))) (by kernel_rfl) (.cons rfl (.slice Try.underlying24 (by kernel_rfl) (.struct Try.underlying89 (.cons rfl .one (by kernel_rfl) (.cons rfl .one (by kernel_rfl) .nil))) (by kernel_rfl)) (by kernel_rfl) .nil)))) (by kernel_rfl)) (.cons (.slice Try.underlying24 (by kernel_rfl) (.struct Try.underlying89 (.cons rfl .one (by kernel_rfl) (.cons rfl .one (by kernel_rfl) .nil))) (by kernel_rfl)) .nil))
theorem over : Rows.holdPlaysRow.holds Try.pinned (OpenSpec.ofChange Rows.holdPlaysSpec) :=
  OpenClaim.holds_of_wide 5 Try.f5 rfl rfl rfl rfl rfl rfl rfl ⟨rfl, rfl, rfl, rfl, rfl⟩ rfl rfl rfl rfl rfl (by kernel_rfl) Try.func5 (by kernel_rfl)
    (of_decide_eq_true (by kernel_rfl)) (by unfold Func.isWrapper; first | (rw [if_pos (by decide +kernel)]; kernel_rfl) | (rw [if_neg (by decide +kernel)]; exact ⟨rfl, rfl⟩))
    (fun os started H enc _ => lifted os started H enc)
end Go.Proofs.Ytclhjcbnpdlgbaa.holdPlays
namespace Go.Proofs.Ytclhjcbnpdlgbaa
theorem holdPlays_holds : Rows.HoldPlaysSaid := holdPlays.over
#print axioms holdPlays_holds
end Go.Proofs.Ytclhjcbnpdlgbaa
