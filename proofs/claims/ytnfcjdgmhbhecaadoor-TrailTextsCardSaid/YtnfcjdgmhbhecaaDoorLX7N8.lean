/- TrailTexts: its row, and its tied card. -/
import Derived.Test.YtnfcjdgmhbhecaaDoorTie
import Derived.Test.YtnfcjdgmhbhecaaDoorCards
import Derived.WalkKit
import Derived.ProofKit
import Derived.SizedLaws
import Derived.Handed
import Derived.Lay
import Derived.FnData
import Derived.ChangeSame
import Derived.ChangeArms
import Derived.SevenTiedAt
import Derived.Test.YtnfcjdgmhbhecaaDoorLX7N7
import Derived.Test.YtnfcjdgmhbhecaaDoorLA3
namespace Go.Proofs.YtnfcjdgmhbhecaaDoor.trailTexts
open Go Go.Lift Go.ChangeShapes Go.WideShapes Go.RowKit
set_option linter.unusedVariables false

theorem own : ownKnob Tryd.prog.godebug = none := by kernel_rfl
theorem laidOut : laidOutB Tryd.prog = true := by kernel_rfl
/-- what the condition gives: the table's cells -/
theorem gok {W : World} (h : laidMetH Tryd.prog Rows.trailTextsRow.laid W) : GOk GT (Rb W) W := by
  have h : laidMet Tryd.prog Rows.trailTextsRow.laid W := h
  have h3 := laidMet_tail (laidMet_tail h)
  have ht : Lib.TabIs Tryd.prog W _ .u64 Lib.pow10Tab := Lib.tabIs_of_head (g := 0) (t := 175) (e := 126) (n := 20) (by kernel_rfl) (by kernel_rfl) Tryd.underlying175 Tryd.underlying126 (by kernel_rfl) (by kernel_rfl) h3
  intro x hx
  have hx : x = (0, Lib.pow10Tab.map fun z => .v (.int .u64 z)) := by simpa [GT] using hx
  subst hx
  exact GOk.of_tab (by kernel_rfl) ht
theorem called (A : List IV) (h : TyA [⟨false, [.str]⟩] A) (hwt : SzA [[.no]] A) : ∃ A', SCallG GT Tryd.prog 4 A (.v (.bool true)) A' := by
  obtain ⟨x1, B1, rfl, h1, g1⟩ := h.one_inv
  obtain rfl := g1.nil_inv
  obtain ⟨t, rfl, w2⟩ := h1.str_inv
  rw [ba_eta t]
  exact ⟨_, trailTexts_call t.data.toList (by unfold Go.maxLen at w2; simpa using w2)⟩
set_option maxRecDepth 100000 in
theorem lifted (os : Os) (started : os.Started) (H : Type) (enc : TypeId × Value → H) :
    ReturnsInHanded {} Tryd.checked os 4 .any (fun w args => (Rows.trailTextsSpec.pre enc Tryd.prog Tryd.f4 [] false w args ∧ laidMetH Tryd.prog Rows.trailTextsRow.laid w) ∧ sizedMet enc Tryd.prog Tryd.f4 (OpenSpec.ofChange Rows.trailTextsSpec) false w args)
      (Rows.trailTextsSpec.post enc Tryd.prog Tryd.f4 false true false false) := by
  refine returnsInHanded_of_change_and (C := Tryd.checked) (X := fun w _ => laidMetH Tryd.prog Rows.trailTextsRow.laid w) (fun _ _ _ hh h => h.of_heap hh) own started (by kernel_rfl) Tryd.func4
    (ChangeSpec.witness_at (enc := enc) (C := Tryd.checked) (os := os) (X := fun w _ => laidMetH Tryd.prog Rows.trailTextsRow.laid w) false (World.laidAll Tryd.prog os Rows.trailTextsRow.laid) #[.string ⟨#[]⟩] 8 (World.laidAll_os _ _ _) (by kernel_rfl) (by kernel_rfl) (by kernel_rfl) (by kernel_rfl) (by kernel_rfl)
      (laidMet_laidAll (laid := Rows.trailTextsRow.laid) #[.string ⟨#[]⟩] (by kernel_rfl) (by kernel_rfl))) ?_
  intro W base args ds gs before hval hW _ hsz hL _
  refine law_contractGW (G := GT) (tb := 4) (ps := [⟨false, [.str]⟩]) (ws := [[.no]]) laidOut rfl (fun ds h => ?_) rfl Tryd.underlying4 ?_ ?_ ?_ called W (gok hL) base args ds gs before hval hW hsz
  · rw [Tryd.params4] at h
    rcases ds with _ | ⟨d0, _ | ⟨d1, ds⟩⟩ <;> first | rfl | (exfalso; simp at h)
  · rw [Tryd.params4]
    intro t ht
    simp only [List.mem_cons, List.not_mem_nil, or_false] at ht
    rcases ht with rfl <;> exact ⟨by kernel_rfl, of_decide_eq_true (by kernel_rfl)⟩
  · rw [Tryd.params4]
    exact (.one Tryd.underlying9 rfl (.str Tryd.underlying9) .nil)
  · rw [Tryd.params4]
    exact (.cons .one .nil)
theorem over : Rows.TrailTextsSaid :=
  OpenClaim.holds_of_wide 4 Tryd.f4 rfl rfl rfl rfl rfl rfl rfl ⟨rfl, rfl, rfl, rfl, rfl⟩ rfl rfl rfl rfl rfl (by kernel_rfl) Tryd.func4 (by kernel_rfl)
    (of_decide_eq_true (by kernel_rfl)) (by unfold Func.isWrapper; first | (rw [if_pos (by decide +kernel)]; kernel_rfl) | (rw [if_neg (by decide +kernel)]; exact ⟨rfl, rfl⟩))
    (fun os started H enc _ => lifted os started H enc)
end Go.Proofs.YtnfcjdgmhbhecaaDoor.trailTexts
namespace Go.Proofs.YtnfcjdgmhbhecaaDoor
open Go
set_option maxRecDepth 100000 in
/-- THE TIED CARD. -/
theorem trailTextsCard_holds : Rows.TrailTextsCardSaid :=
  Claim7.holds_tied_plain_at .later [] [.data, .data, .data] true (true, "c0c0f519ef3bb02b3fa8fd0468baaec2ea67804ac8dc5b612ef849989ae8b9f5") true
    trailTexts.over (fun _ h => by cases h) (by kernel_rfl) (fun _ h => by cases h) trailTexts_row_tie rfl ⟨rfl, rfl⟩ (by kernel_rfl) rfl
    (fun f fn hf hfn => by
      obtain rfl : f = 4 := Option.some.inj ((show Tryd.prog.funcNamed "copyist/copyistlaw34.TrailTexts" = some 4 by kernel_rfl).symm.trans hf) |>.symm
      obtain rfl : fn = Tryd.f4 := (Option.some.inj (Tryd.func4.symm.trans hfn)).symm
      exact ⟨by kernel_rfl, fun j t ht => by
        rw [Tryd.params4] at ht
        have h3 : t ∈ [9] := by
          have := Array.mem_of_getElem? ht
          simpa using this
        simp only [List.mem_cons, List.not_mem_nil, or_false] at h3
        rcases h3 with rfl <;> first | exact (show Tryd.prog.wantsStandIn 9 = false by kernel_rfl)⟩)
    (by kernel_rfl)
#print axioms trailTextsCard_holds
end Go.Proofs.YtnfcjdgmhbhecaaDoor
