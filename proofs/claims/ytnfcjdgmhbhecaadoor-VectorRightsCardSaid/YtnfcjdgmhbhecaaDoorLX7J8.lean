/- VectorRights: its row, and its tied card. -/
import Derived.Test.YtnfcjdgmhbhecaaDoorTie
import Derived.Test.YtnfcjdgmhbhecaaDoorCards
import Derived.WalkKit
import Derived.ProofKit
import Derived.SizedLaws
import Derived.Handed
import Derived.Lay
import Derived.FnData
import Derived.ChangeSame
import Derived.ChangeArms
import Derived.SevenTiedAt
import Derived.Test.YtnfcjdgmhbhecaaDoorLX7J7
namespace Go.Proofs.YtnfcjdgmhbhecaaDoor.vectorRights
open Go Go.Lift Go.ChangeShapes Go.WideShapes Go.RowKit
set_option linter.unusedVariables false

theorem own : ownKnob Tryd.prog.godebug = none := by kernel_rfl
theorem laidOut : laidOutB Tryd.prog = true := by kernel_rfl
theorem gok {W : World} (h : laidMetH Tryd.prog Rows.vectorRightsRow.laid W) : GOk GT (Rb W) W := fun x hx => by simp at hx
theorem ves_of {x : IV} (h : Ty (.row [.int .u16, .int .u32]) x) : ∃ l : List Ve, x = .tr l.length (encs veC l) ∧ ∀ x ∈ l, (0 ≤ x.1 ∧ x.1 ≤ 65535) ∧ (0 ≤ x.2 ∧ x.2 ≤ 4294967295) := by
  obtain ⟨l, h1, _, h3⟩ := row_of (f := veC) (good := fun s => (0 ≤ s.1 ∧ s.1 ≤ 65535) ∧ (0 ≤ s.2 ∧ s.2 ≤ 4294967295)) (fun c hc => by
    obtain ⟨y1, ys1, rfl, a1, hc⟩ := hc.cons_inv
    obtain ⟨y2, ys2, rfl, a2, hc⟩ := hc.cons_inv
    obtain rfl := hc.nil_inv
    obtain ⟨r, rfl, w1⟩ := a1.int_inv
    obtain ⟨n, rfl, w2⟩ := a2.int_inv
    exact ⟨(r, n), rfl, wf_u16 w1, wf_u32 w2⟩) h
  exact ⟨l, h1, h3⟩
theorem called (A : List IV) (h : TyA [⟨false, [.row [.int .u16, .int .u32]]⟩] A) (hwt : SzA [[.row 8 [.no, .no]]] A) : ∃ A', SCallG GT Tryd.prog 5 A (.v (.bool true)) A' := by
  obtain ⟨x1, B1, rfl, h1, g1⟩ := h.one_inv
  obtain rfl := g1.nil_inv
  obtain ⟨l, rfl, hl⟩ := ves_of h1
  exact ⟨_, (vectorRights_call l fun x hx => (hl x hx).1).toG⟩
set_option maxRecDepth 100000 in
theorem lifted (os : Os) (started : os.Started) (H : Type) (enc : TypeId × Value → H) :
    ReturnsInHanded {} Tryd.checked os 5 .any (fun w args => (Rows.vectorRightsSpec.pre enc Tryd.prog Tryd.f5 [] false w args ∧ laidMetH Tryd.prog Rows.vectorRightsRow.laid w) ∧ sizedMet enc Tryd.prog Tryd.f5 (OpenSpec.ofChange Rows.vectorRightsSpec) false w args)
      (Rows.vectorRightsSpec.post enc Tryd.prog Tryd.f5 false true false false) := by
  refine returnsInHanded_of_change_and (C := Tryd.checked) (X := fun w _ => laidMetH Tryd.prog Rows.vectorRightsRow.laid w) (fun _ _ _ hh h => h.of_heap hh) own started (by kernel_rfl) Tryd.func5
    (ChangeSpec.witness_at (enc := enc) (C := Tryd.checked) (os := os) (X := fun w _ => laidMetH Tryd.prog Rows.vectorRightsRow.laid w) false (World.laidAll Tryd.prog os Rows.vectorRightsRow.laid) #[.slice none 0 0] 8 (World.laidAll_os _ _ _) (by kernel_rfl) (by kernel_rfl) (by kernel_rfl) (by kernel_rfl) (by kernel_rfl)
      (laidMet_laidAll (laid := Rows.vectorRightsRow.laid) #[.slice none 0 0] (by kernel_rfl) (by kernel_rfl))) ?_
  intro W base args ds gs before hval hW _ hsz hL _
  refine law_contractGW (G := GT) (tb := 4) (ps := [⟨false, [.row [.int .u16, .int .u32]]⟩]) (ws := [[.row 8 [.no, .no]]]) laidOut rfl (fun ds h => ?_) rfl Tryd.underlying4 ?_ ?_ ?_ called W (gok hL) base args ds gs before hval hW hsz
  · rw [Tryd.params5] at h
    rcases ds with _ | ⟨d0, _ | ⟨d1, ds⟩⟩ <;> first | rfl | (exfalso; simp at h)
  · rw [Tryd.params5]
    intro t ht
    simp only [List.mem_cons, List.not_mem_nil, or_false] at ht
    rcases ht with rfl <;> exact ⟨by kernel_rfl, of_decide_eq_true (by kernel_rfl)⟩
  · rw [Tryd.params5]
    exact (.one Tryd.underlying58 rfl (.slice Tryd.underlying58 (.struct Tryd.underlying118 (.cons rfl (.int Tryd.underlying66) (by kernel_rfl) (.cons rfl (.int Tryd.underlying67) (by kernel_rfl) .nil)) (by kernel_rfl)) (by kernel_rfl) (by decide)) .nil)
  · rw [Tryd.params5]
    exact (.cons (.slice Tryd.underlying58 (by kernel_rfl) (.struct Tryd.underlying118 (.cons rfl .one (by kernel_rfl) (.cons rfl .one (by kernel_rfl) .nil))) (by kernel_rfl)) .nil)
theorem over : Rows.VectorRightsSaid :=
  OpenClaim.holds_of_wide 5 Tryd.f5 rfl rfl rfl rfl rfl rfl rfl ⟨rfl, rfl, rfl, rfl, rfl⟩ rfl rfl rfl rfl rfl (by kernel_rfl) Tryd.func5 (by kernel_rfl)
    (of_decide_eq_true (by kernel_rfl)) (by unfold Func.isWrapper; first | (rw [if_pos (by decide +kernel)]; kernel_rfl) | (rw [if_neg (by decide +kernel)]; exact ⟨rfl, rfl⟩))
    (fun os started H enc _ => lifted os started H enc)
end Go.Proofs.YtnfcjdgmhbhecaaDoor.vectorRights
namespace Go.Proofs.YtnfcjdgmhbhecaaDoor
open Go
set_option maxRecDepth 100000 in
/-- THE TIED CARD. -/
theorem vectorRightsCard_holds : Rows.VectorRightsCardSaid :=
  Claim7.holds_tied_plain_at .later [] [.data, .data, .data] true (true, "c0c0f519ef3bb02b3fa8fd0468baaec2ea67804ac8dc5b612ef849989ae8b9f5") true
    vectorRights.over (fun _ h => by cases h) (by kernel_rfl) (fun _ h => by cases h) vectorRights_row_tie rfl ⟨rfl, rfl⟩ (by kernel_rfl) rfl
    (fun f fn hf hfn => by
      obtain rfl : f = 5 := Option.some.inj ((show Tryd.prog.funcNamed "copyist/copyistlaw02.VectorRights" = some 5 by kernel_rfl).symm.trans hf) |>.symm
      obtain rfl : fn = Tryd.f5 := (Option.some.inj (Tryd.func5.symm.trans hfn)).symm
      exact ⟨by kernel_rfl, fun j t ht => by
        rw [Tryd.params5] at ht
        have h3 : t ∈ [58] := by
          have := Array.mem_of_getElem? ht
          simpa using this
        simp only [List.mem_cons, List.not_mem_nil, or_false] at h3
        rcases h3 with rfl <;> first | exact (show Tryd.prog.wantsStandIn 58 = false by kernel_rfl)⟩)
    (by kernel_rfl)
#print axioms vectorRightsCard_holds
end Go.Proofs.YtnfcjdgmhbhecaaDoor
