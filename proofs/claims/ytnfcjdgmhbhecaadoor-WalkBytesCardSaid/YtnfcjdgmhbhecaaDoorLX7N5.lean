/- WalkBytes: its row, and its tied card. -/
import Derived.Test.YtnfcjdgmhbhecaaDoorTie
import Derived.Test.YtnfcjdgmhbhecaaDoorCards
import Derived.WalkKit
import Derived.ProofKit
import Derived.SizedLaws
import Derived.Handed
import Derived.Lay
import Derived.FnData
import Derived.ChangeSame
import Derived.ChangeArms
import Derived.SevenTiedAt
import Derived.Test.YtnfcjdgmhbhecaaDoorLX7N4
import Derived.Test.YtnfcjdgmhbhecaaDoorLA3
namespace Go.Proofs.YtnfcjdgmhbhecaaDoor.walkBytes
open Go Go.Lift Go.ChangeShapes Go.WideShapes Go.RowKit
set_option linter.unusedVariables false

theorem own : ownKnob Tryd.prog.godebug = none := by kernel_rfl
theorem laidOut : laidOutB Tryd.prog = true := by kernel_rfl
/-- what the condition gives: the table's cells -/
theorem gok {W : World} (h : laidMetH Tryd.prog Rows.walkBytesRow.laid W) : GOk GT (Rb W) W := by
  have h : laidMet Tryd.prog Rows.walkBytesRow.laid W := h
  have h3 := laidMet_tail (laidMet_tail h)
  have ht : Lib.TabIs Tryd.prog W _ .u64 Lib.pow10Tab := Lib.tabIs_of_head (g := 0) (t := 175) (e := 126) (n := 20) (by kernel_rfl) (by kernel_rfl) Tryd.underlying175 Tryd.underlying126 (by kernel_rfl) (by kernel_rfl) h3
  intro x hx
  have hx : x = (0, Lib.pow10Tab.map fun z => .v (.int .u64 z)) := by simpa [GT] using hx
  subst hx
  exact GOk.of_tab (by kernel_rfl) ht
theorem called (A : List IV) (h : TyA [⟨false, [.int .u8]⟩, ⟨false, [.str]⟩] A) (hwt : SzA [[.no], [.no]] A) : ∃ A', SCallG GT Tryd.prog 3 A (.v (.bool true)) A' := by
  obtain ⟨x1, B1, rfl, h1, g1⟩ := h.one_inv
  obtain ⟨x2, B2, rfl, h2, g2⟩ := g1.one_inv
  obtain rfl := g2.nil_inv
  obtain ⟨n, rfl, w1⟩ := h1.int_inv
  obtain ⟨t, rfl, w2⟩ := h2.str_inv
  have hn : 0 ≤ n ∧ n ≤ 255 := wf_bounds w1
  obtain ⟨b, rfl⟩ : ∃ b : UInt8, n = (b.toNat : Int) := ⟨UInt8.ofNat n.toNat, by simp; omega⟩
  rw [ba_eta t]
  exact ⟨_, walkBytes_call b t.data.toList (by unfold Go.maxLen at w2; simpa using w2)⟩
set_option maxRecDepth 100000 in
theorem lifted (os : Os) (started : os.Started) (H : Type) (enc : TypeId × Value → H) :
    ReturnsInHanded {} Tryd.checked os 3 .any (fun w args => (Rows.walkBytesSpec.pre enc Tryd.prog Tryd.f3 [] false w args ∧ laidMetH Tryd.prog Rows.walkBytesRow.laid w) ∧ sizedMet enc Tryd.prog Tryd.f3 (OpenSpec.ofChange Rows.walkBytesSpec) false w args)
      (Rows.walkBytesSpec.post enc Tryd.prog Tryd.f3 false true false false) := by
  refine returnsInHanded_of_change_and (C := Tryd.checked) (X := fun w _ => laidMetH Tryd.prog Rows.walkBytesRow.laid w) (fun _ _ _ hh h => h.of_heap hh) own started (by kernel_rfl) Tryd.func3
    (ChangeSpec.witness_at (enc := enc) (C := Tryd.checked) (os := os) (X := fun w _ => laidMetH Tryd.prog Rows.walkBytesRow.laid w) false (World.laidAll Tryd.prog os Rows.walkBytesRow.laid) #[.int .u8 0, .string ⟨#[]⟩] 8 (World.laidAll_os _ _ _) (by kernel_rfl) (by kernel_rfl) (by kernel_rfl) (by kernel_rfl) (by kernel_rfl)
      (laidMet_laidAll (laid := Rows.walkBytesRow.laid) #[.int .u8 0, .string ⟨#[]⟩] (by kernel_rfl) (by kernel_rfl))) ?_
  intro W base args ds gs before hval hW _ hsz hL _
  refine law_contractGW (G := GT) (tb := 4) (ps := [⟨false, [.int .u8]⟩, ⟨false, [.str]⟩]) (ws := [[.no], [.no]]) laidOut rfl (fun ds h => ?_) rfl Tryd.underlying4 ?_ ?_ ?_ called W (gok hL) base args ds gs before hval hW hsz
  · rw [Tryd.params3] at h
    rcases ds with _ | ⟨d0, _ | ⟨d1, _ | ⟨d2, ds⟩⟩⟩ <;> first | rfl | (exfalso; simp at h)
  · rw [Tryd.params3]
    intro t ht
    simp only [List.mem_cons, List.not_mem_nil, or_false] at ht
    rcases ht with rfl | rfl <;> exact ⟨by kernel_rfl, of_decide_eq_true (by kernel_rfl)⟩
  · rw [Tryd.params3]
    exact (.one Tryd.underlying5 rfl (.int Tryd.underlying5) (.one Tryd.underlying9 rfl (.str Tryd.underlying9) .nil))
  · rw [Tryd.params3]
    exact (.cons .one (.cons .one .nil))
theorem over : Rows.WalkBytesSaid :=
  OpenClaim.holds_of_wide 3 Tryd.f3 rfl rfl rfl rfl rfl rfl rfl ⟨rfl, rfl, rfl, rfl, rfl⟩ rfl rfl rfl rfl rfl (by kernel_rfl) Tryd.func3 (by kernel_rfl)
    (of_decide_eq_true (by kernel_rfl)) (by unfold Func.isWrapper; first | (rw [if_pos (by decide +kernel)]; kernel_rfl) | (rw [if_neg (by decide +kernel)]; exact ⟨rfl, rfl⟩))
    (fun os started H enc _ => lifted os started H enc)
end Go.Proofs.YtnfcjdgmhbhecaaDoor.walkBytes
namespace Go.Proofs.YtnfcjdgmhbhecaaDoor
open Go
set_option maxRecDepth 100000 in
/-- THE TIED CARD. -/
theorem walkBytesCard_holds : Rows.WalkBytesCardSaid :=
  Claim7.holds_tied_plain_at .later [] [.data, .data, .data] true (true, "c0c0f519ef3bb02b3fa8fd0468baaec2ea67804ac8dc5b612ef849989ae8b9f5") true
    walkBytes.over (fun _ h => by cases h) (by kernel_rfl) (fun _ h => by cases h) walkBytes_row_tie rfl ⟨rfl, rfl⟩ (by kernel_rfl) rfl
    (fun f fn hf hfn => by
      obtain rfl : f = 3 := Option.some.inj ((show Tryd.prog.funcNamed "copyist/copyistlaw04.WalkBytes" = some 3 by kernel_rfl).symm.trans hf) |>.symm
      obtain rfl : fn = Tryd.f3 := (Option.some.inj (Tryd.func3.symm.trans hfn)).symm
      exact ⟨by kernel_rfl, fun j t ht => by
        rw [Tryd.params3] at ht
        have h3 : t ∈ [5, 9] := by
          have := Array.mem_of_getElem? ht
          simpa using this
        simp only [List.mem_cons, List.not_mem_nil, or_false] at h3
        rcases h3 with rfl | rfl <;> first | exact (show Tryd.prog.wantsStandIn 5 = false by kernel_rfl) | exact (show Tryd.prog.wantsStandIn 9 = false by kernel_rfl)⟩)
    (by kernel_rfl)
#print axioms walkBytesCard_holds
end Go.Proofs.YtnfcjdgmhbhecaaDoor
