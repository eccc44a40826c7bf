/- VectorLaws: its row, and its tied card. -/
import Derived.Test.YtnfcjdgmhbhecaaDoorTie
import Derived.Test.YtnfcjdgmhbhecaaDoorCards
import Derived.WalkKit
import Derived.ProofKit
import Derived.SizedLaws
import Derived.Handed
import Derived.Lay
import Derived.FnData
import Derived.ChangeSame
import Derived.ChangeArms
import Derived.SevenTiedAt
import Derived.Test.YtnfcjdgmhbhecaaDoorLX7JG
namespace Go.Proofs.YtnfcjdgmhbhecaaDoor.vectorLaws
open Go Go.Lift Go.ChangeShapes Go.WideShapes Go.RowKit
set_option linter.unusedVariables false

theorem own : ownKnob Tryd.prog.godebug = none := by kernel_rfl
theorem laidOut : laidOutB Tryd.prog = true := by kernel_rfl
theorem gok {W : World} (h : laidMetH Tryd.prog Rows.vectorLawsRow.laid W) : GOk GT (Rb W) W := fun x hx => by simp at hx
theorem ves_of {x : IV} (h : Ty (.row [.int .u16, .int .u32]) x) : ∃ l : List Ve, x = .tr l.length (encs veC l) ∧ ∀ x ∈ l, (0 ≤ x.1 ∧ x.1 ≤ 65535) ∧ (0 ≤ x.2 ∧ x.2 ≤ 4294967295) := by
  obtain ⟨l, h1, _, h3⟩ := row_of (f := veC) (good := fun s => (0 ≤ s.1 ∧ s.1 ≤ 65535) ∧ (0 ≤ s.2 ∧ s.2 ≤ 4294967295)) (fun c hc => by
    obtain ⟨y1, ys1, rfl, a1, hc⟩ := hc.cons_inv
    obtain ⟨y2, ys2, rfl, a2, hc⟩ := hc.cons_inv
    obtain rfl := hc.nil_inv
    obtain ⟨r, rfl, w1⟩ := a1.int_inv
    obtain ⟨n, rfl, w2⟩ := a2.int_inv
    exact ⟨(r, n), rfl, wf_u16 w1, wf_u32 w2⟩) h
  exact ⟨l, h1, h3⟩
theorem called (A : List IV) (h : TyA [⟨false, [.row [.int .u16, .int .u32]]⟩, ⟨false, [.row [.int .u16, .int .u32]]⟩, ⟨false, [.row [.int .u16, .int .u32]]⟩] A) (hwt : SzA [[.row 8 [.no, .no]], [.row 8 [.no, .no]], [.row 8 [.no, .no]]] A) : ∃ A', SCallG GT Tryd.prog 6 A (.v (.bool true)) A' := by
  obtain ⟨x1, B1, rfl, h1, g1⟩ := h.one_inv
  obtain ⟨x2, B2, rfl, h2, g2⟩ := g1.one_inv
  obtain ⟨x3, B3, rfl, h3, g3⟩ := g2.one_inv
  obtain rfl := g3.nil_inv
  obtain ⟨u, rfl, hu⟩ := ves_of h1
  obtain ⟨v, rfl, hv⟩ := ves_of h2
  obtain ⟨w, rfl, hw⟩ := ves_of h3
  simp only [SzA, Sz1, Szl, Sz] at hwt
  have hz1 := (hwt.1.1 _ _ rfl).1
  have hz2 := (hwt.2.1.1 _ _ rfl).1
  have hz3 := (hwt.2.2.1.1 _ _ rfl).1
  have hb : reachBytes = 140737488351232 := rfl
  rw [hb] at hz1 hz2 hz3
  exact ⟨_, (vectorLaws_call u v w hu hv hw (by omega) (by omega) (by omega)).toG⟩
set_option maxRecDepth 100000 in
theorem lifted (os : Os) (started : os.Started) (H : Type) (enc : TypeId × Value → H) :
    ReturnsInHanded {} Tryd.checked os 6 .any (fun w args => (Rows.vectorLawsSpec.pre enc Tryd.prog Tryd.f6 [] false w args ∧ laidMetH Tryd.prog Rows.vectorLawsRow.laid w) ∧ sizedMet enc Tryd.prog Tryd.f6 (OpenSpec.ofChange Rows.vectorLawsSpec) false w args)
      (Rows.vectorLawsSpec.post enc Tryd.prog Tryd.f6 false true false false) := by
  refine returnsInHanded_of_change_and (C := Tryd.checked) (X := fun w _ => laidMetH Tryd.prog Rows.vectorLawsRow.laid w) (fun _ _ _ hh h => h.of_heap hh) own started (by kernel_rfl) Tryd.func6
    (ChangeSpec.witness_at (enc := enc) (C := Tryd.checked) (os := os) (X := fun w _ => laidMetH Tryd.prog Rows.vectorLawsRow.laid w) false (World.laidAll Tryd.prog os Rows.vectorLawsRow.laid) #[.slice none 0 0, .slice none 0 0, .slice none 0 0] 8 (World.laidAll_os _ _ _) (by kernel_rfl) (by kernel_rfl) (by kernel_rfl) (by kernel_rfl) (by kernel_rfl)
      (laidMet_laidAll (laid := Rows.vectorLawsRow.laid) #[.slice none 0 0, .slice none 0 0, .slice none 0 0] (by kernel_rfl) (by kernel_rfl))) ?_
  intro W base args ds gs before hval hW _ hsz hL _
  refine law_contractGW (G := GT) (tb := 4) (ps := [⟨false, [.row [.int .u16, .int .u32]]⟩, ⟨false, [.row [.int .u16, .int .u32]]⟩, ⟨false, [.row [.int .u16, .int .u32]]⟩]) (ws := [[.row 8 [.no, .no]], [.row 8 [.no, .no]], [.row 8 [.no, .no]]]) laidOut rfl (fun ds h => ?_) rfl Tryd.underlying4 ?_ ?_ ?_ called W (gok hL) base args ds gs before hval hW hsz
  · rw [Tryd.params6] at h
    rcases ds with _ | ⟨d0, _ | ⟨d1, _ | ⟨d2, _ | ⟨d3, ds⟩⟩⟩⟩ <;> first | rfl | (exfalso; simp at h)
  · rw [Tryd.params6]
    intro t ht
    simp only [List.mem_cons, List.not_mem_nil, or_false] at ht
    rcases ht with rfl | rfl | rfl <;> exact ⟨by kernel_rfl, of_decide_eq_true (by kernel_rfl)⟩
  · rw [Tryd.params6]
    exact (.one Tryd.underlying58 rfl (.slice Tryd.underlying58 (.struct Tryd.underlying118 (.cons rfl (.int Tryd.underlying66) (by kernel_rfl) (.cons rfl (.int Tryd.underlying67) (by kernel_rfl) .nil)) (by kernel_rfl)) (by kernel_rfl) (by decide)) (.one Tryd.underlying58 rfl (.slice Tryd.underlying58 (.struct Tryd.underlying118 (.cons rfl (.int Tryd.underlying66) (by kernel_rfl) (.cons rfl (.int Tryd.underlying67) (by kernel_rfl) .nil)) (by kernel_rfl)) (by kernel_rfl) (by decide)) (.one Tryd.underlying58 rfl (.slice Tryd.underlying58 (.struct Tryd.underlying118 (.cons rfl (.int Tryd.underlying66) (by kernel_rfl) (.cons rfl (.int Tryd.underlying67) (by kernel_rfl) .nil)) (by kernel_rfl)) (by kernel_rfl) (by decide)) .nil)))
  · rw [Tryd.params6]
    exact (.cons (.slice Tryd.underlying58 (by kernel_rfl) (.struct Tryd.underlying118 (.cons rfl .one (by kernel_rfl) (.cons rfl .one (by kernel_rfl) .nil))) (by kernel_rfl)) (.cons (.slice Tryd.underlying58 (by kernel_rfl) (.struct Tryd.underlying118 (.cons rfl .one (by kernel_rfl) (.cons rfl .one (by kernel_rfl) .nil))) (by kernel_rfl)) (.cons (.slice Tryd.underlying58 (by kernel_rfl) (.struct Tryd.underlying118 (.cons rfl .one (by kernel_rfl) (.cons rfl .one (by kernel_rfl) .nil))) (by kernel_rfl)) .nil)))
theorem over : Rows.VectorLawsSaid :=
  OpenClaim.holds_of_wide 6 Tryd.f6 rfl rfl rfl rfl rfl rfl rfl ⟨rfl, rfl, rfl, rfl, rfl⟩ rfl rfl rfl rfl rfl (by kernel_rfl) Tryd.func6 (by kernel_rfl)
    (of_decide_eq_true (by kernel_rfl)) (by unfold Func.isWrapper; first | (rw [if_pos (by decide +kernel)]; kernel_rfl) | (rw [if_neg (by decide +kernel)]; exact ⟨rfl, rfl⟩))
    (fun os started H enc _ => lifted os started H enc)
end Go.Proofs.YtnfcjdgmhbhecaaDoor.vectorLaws
namespace Go.Proofs.YtnfcjdgmhbhecaaDoor
open Go
set_option maxRecDepth 100000 in
/-- THE TIED CARD. -/
theorem vectorLawsCard_holds : Rows.VectorLawsCardSaid :=
  Claim7.holds_tied_plain_at .later [] [.data, .data, .data] true (true, "c0c0f519ef3bb02b3fa8fd0468baaec2ea67804ac8dc5b612ef849989ae8b9f5") true
    vectorLaws.over (fun _ h => by cases h) (by kernel_rfl) (fun _ h => by cases h) vectorLaws_row_tie rfl ⟨rfl, rfl⟩ (by kernel_rfl) rfl
    (fun f fn hf hfn => by
      obtain rfl : f = 6 := Option.some.inj ((show Tryd.prog.funcNamed "copyist/copyistlaw02.VectorLaws" = some 6 by kernel_rfl).symm.trans hf) |>.symm
      obtain rfl : fn = Tryd.f6 := (Option.some.inj (Tryd.func6.symm.trans hfn)).symm
      exact ⟨by kernel_rfl, fun j t ht => by
        rw [Tryd.params6] at ht
        have h3 : t ∈ [58, 58, 58] := by
          have := Array.mem_of_getElem? ht
          simpa using this
        simp only [List.mem_cons, List.not_mem_nil, or_false] at h3
        rcases h3 with rfl | rfl | rfl <;> first | exact (show Tryd.prog.wantsStandIn 58 = false by kernel_rfl)⟩)
    (by kernel_rfl)
#print axioms vectorLawsCard_holds
end Go.Proofs.YtnfcjdgmhbhecaaDoor
