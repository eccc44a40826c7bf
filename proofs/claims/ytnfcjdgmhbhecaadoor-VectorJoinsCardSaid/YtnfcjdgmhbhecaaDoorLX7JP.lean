/- VectorJoins: its row, and its tied card. -/
import Derived.Test.YtnfcjdgmhbhecaaDoorTie
import Derived.Test.YtnfcjdgmhbhecaaDoorCards
import Derived.WalkKit
import Derived.ProofKit
import Derived.SizedLaws
import Derived.Handed
import Derived.Lay
import Derived.FnData
import Derived.ChangeSame
import Derived.ChangeArms
import Derived.SevenTiedAt
import Derived.Test.YtnfcjdgmhbhecaaDoorLX7JO
import Derived.Test.YtnfcjdgmhbhecaaDoorLA3
namespace Go.Proofs.YtnfcjdgmhbhecaaDoor.vectorJoins
open Go Go.Lift Go.ChangeShapes Go.WideShapes Go.RowKit
set_option linter.unusedVariables false

theorem own : ownKnob Tryd.prog.godebug = none := by kernel_rfl
theorem laidOut : laidOutB Tryd.prog = true := by kernel_rfl
/-- what the condition gives: the table's cells -/
theorem gok {W : World} (h : laidMetH Tryd.prog Rows.vectorJoinsRow.laid W) : GOk GT (Rb W) W := by
  have h : laidMet Tryd.prog Rows.vectorJoinsRow.laid W := h
  have h3 := laidMet_tail (laidMet_tail h)
  have ht : Lib.TabIs Tryd.prog W _ .u64 Lib.pow10Tab := Lib.tabIs_of_head (g := 0) (t := 175) (e := 126) (n := 20) (by kernel_rfl) (by kernel_rfl) Tryd.underlying175 Tryd.underlying126 (by kernel_rfl) (by kernel_rfl) h3
  intro x hx
  have hx : x = (0, Lib.pow10Tab.map fun z => .v (.int .u64 z)) := by simpa [GT] using hx
  subst hx
  exact GOk.of_tab (by kernel_rfl) ht
theorem ves_of {x : IV} (h : Ty (.row [.int .u16, .int .u32]) x) : ∃ l : List Ve, x = .tr l.length (encs veC l) ∧ ∀ x ∈ l, (0 ≤ x.1 ∧ x.1 ≤ 65535) ∧ (0 ≤ x.2 ∧ x.2 ≤ 4294967295) := by
  obtain ⟨l, h1, _, h3⟩ := row_of (f := veC) (good := fun s => (0 ≤ s.1 ∧ s.1 ≤ 65535) ∧ (0 ≤ s.2 ∧ s.2 ≤ 4294967295)) (fun c hc => by
    obtain ⟨y1, ys1, rfl, a1, hc⟩ := hc.cons_inv
    obtain ⟨y2, ys2, rfl, a2, hc⟩ := hc.cons_inv
    obtain rfl := hc.nil_inv
    obtain ⟨r, rfl, w1⟩ := a1.int_inv
    obtain ⟨n, rfl, w2⟩ := a2.int_inv
    exact ⟨(r, n), rfl, wf_u16 w1, wf_u32 w2⟩) h
  exact ⟨l, h1, h3⟩
theorem called (A : List IV) (h : TyA [⟨false, [.row [.int .u16, .int .u32]]⟩, ⟨false, [.row [.int .u16, .int .u32]]⟩, ⟨false, [.int .u16]⟩, ⟨false, [.int .u32]⟩] A) (hwt : SzA [[.row 8 [.no, .no]], [.row 8 [.no, .no]], [.no], [.no]] A) : ∃ A', SCallG GT Tryd.prog 7 A (.v (.bool true)) A' := by
  obtain ⟨x1, B1, rfl, h1, g1⟩ := h.one_inv
  obtain ⟨x2, B2, rfl, h2, g2⟩ := g1.one_inv
  obtain ⟨x3, B3, rfl, h3, g3⟩ := g2.one_inv
  obtain ⟨x4, B4, rfl, h4, g4⟩ := g3.one_inv
  obtain rfl := g4.nil_inv
  obtain ⟨v, rfl, hv⟩ := ves_of h1
  obtain ⟨w, rfl, hw⟩ := ves_of h2
  obtain ⟨r, rfl, hr⟩ := h3.int_inv
  obtain ⟨q, rfl, hq⟩ := h4.int_inv
  simp only [SzA, Sz1, Szl, Sz] at hwt
  have hz1 := (hwt.1.1 _ _ rfl).1
  have hz2 := (hwt.2.1.1 _ _ rfl).1
  have hb : reachBytes = 140737488351232 := rfl
  rw [hb] at hz1 hz2
  exact ⟨_, vectorJoins_call v w r q hv hw (wf_u16 hr) (wf_u32 hq) (by omega) (by omega)⟩
set_option maxRecDepth 100000 in
theorem lifted (os : Os) (started : os.Started) (H : Type) (enc : TypeId × Value → H) :
    ReturnsInHanded {} Tryd.checked os 7 .any (fun w args => (Rows.vectorJoinsSpec.pre enc Tryd.prog Tryd.f7 [] false w args ∧ laidMetH Tryd.prog Rows.vectorJoinsRow.laid w) ∧ sizedMet enc Tryd.prog Tryd.f7 (OpenSpec.ofChange Rows.vectorJoinsSpec) false w args)
      (Rows.vectorJoinsSpec.post enc Tryd.prog Tryd.f7 false true false false) := by
  refine returnsInHanded_of_change_and (C := Tryd.checked) (X := fun w _ => laidMetH Tryd.prog Rows.vectorJoinsRow.laid w) (fun _ _ _ hh h => h.of_heap hh) own started (by kernel_rfl) Tryd.func7
    (ChangeSpec.witness_at (enc := enc) (C := Tryd.checked) (os := os) (X := fun w _ => laidMetH Tryd.prog Rows.vectorJoinsRow.laid w) false (World.laidAll Tryd.prog os Rows.vectorJoinsRow.laid) #[.slice none 0 0, .slice none 0 0, .int .u16 0, .int .u32 0] 8 (World.laidAll_os _ _ _) (by kernel_rfl) (by kernel_rfl) (by kernel_rfl) (by kernel_rfl) (by kernel_rfl)
      (laidMet_laidAll (laid := Rows.vectorJoinsRow.laid) #[.slice none 0 0, .slice none 0 0, .int .u16 0, .int .u32 0] (by kernel_rfl) (by kernel_rfl))) ?_
  intro W base args ds gs before hval hW _ hsz hL _
  refine law_contractGW (G := GT) (tb := 4) (ps := [⟨false, [.row [.int .u16, .int .u32]]⟩, ⟨false, [.row [.int .u16, .int .u32]]⟩, ⟨false, [.int .u16]⟩, ⟨false, [.int .u32]⟩]) (ws := [[.row 8 [.no, .no]], [.row 8 [.no, .no]], [.no], [.no]]) laidOut rfl (fun ds h => ?_) rfl Tryd.underlying4 ?_ ?_ ?_ called W (gok hL) base args ds gs before hval hW hsz
  · rw [Tryd.params7] at h
    rcases ds with _ | ⟨d0, _ | ⟨d1, _ | ⟨d2, _ | ⟨d3, _ | ⟨d4, ds⟩⟩⟩⟩⟩ <;> first | rfl | (exfalso; simp at h)
  · rw [Tryd.params7]
    intro t ht
    simp only [List.mem_cons, List.not_mem_nil, or_false] at ht
    rcases ht with rfl | rfl | rfl | rfl <;> exact ⟨by kernel_rfl, of_decide_eq_true (by kernel_rfl)⟩
  · rw [Tryd.params7]
    exact (.one Tryd.underlying58 rfl (.slice Tryd.underlying58 (.struct Tryd.underlying118 (.cons rfl (.int Tryd.underlying66) (by kernel_rfl) (.cons rfl (.int Tryd.underlying67) (by kernel_rfl) .nil)) (by kernel_rfl)) (by kernel_rfl) (by decide)) (.one Tryd.underlying58 rfl (.slice Tryd.underlying58 (.struct Tryd.underlying118 (.cons rfl (.int Tryd.underlying66) (by kernel_rfl) (.cons rfl (.int Tryd.underlying67) (by kernel_rfl) .nil)) (by kernel_rfl)) (by kernel_rfl) (by decide)) (.one Tryd.underlying66 rfl (.int Tryd.underlying66) (.one Tryd.underlying67 rfl (.int Tryd.underlying67) .nil))))
  · rw [Tryd.params7]
    exact (.cons (.slice Tryd.underlying58 (by kernel_rfl) (.struct Tryd.underlying118 (.cons rfl .one (by kernel_rfl) (.cons rfl .one (by kernel_rfl) .nil))) (by kernel_rfl)) (.cons (.slice Tryd.underlying58 (by kernel_rfl) (.struct Tryd.underlying118 (.cons rfl .one (by kernel_rfl) (.cons rfl .one (by kernel_rfl) .nil))) (by kernel_rfl)) (.cons .one (.cons .one .nil))))
theorem over : Rows.VectorJoinsSaid :=
  OpenClaim.holds_of_wide 7 Tryd.f7 rfl rfl rfl rfl rfl rfl rfl ⟨rfl, rfl, rfl, rfl, rfl⟩ rfl rfl rfl rfl rfl (by kernel_rfl) Tryd.func7 (by kernel_rfl)
    (of_decide_eq_true (by kernel_rfl)) (by unfold Func.isWrapper; first | (rw [if_pos (by decide +kernel)]; kernel_rfl) | (rw [if_neg (by decide +kernel)]; exact ⟨rfl, rfl⟩))
    (fun os started H enc _ => lifted os started H enc)
end Go.Proofs.YtnfcjdgmhbhecaaDoor.vectorJoins
namespace Go.Proofs.YtnfcjdgmhbhecaaDoor
open Go
set_option maxRecDepth 100000 in
/-- THE TIED CARD. -/
theorem vectorJoinsCard_holds : Rows.VectorJoinsCardSaid :=
  Claim7.holds_tied_plain_at .later [] [.data, .data, .data] true (true, "c0c0f519ef3bb02b3fa8fd0468baaec2ea67804ac8dc5b612ef849989ae8b9f5") true
    vectorJoins.over (fun _ h => by cases h) (by kernel_rfl) (fun _ h => by cases h) vectorJoins_row_tie rfl ⟨rfl, rfl⟩ (by kernel_rfl) rfl
    (fun f fn hf hfn => by
      obtain rfl : f = 7 := Option.some.inj ((show Tryd.prog.funcNamed "copyist/copyistlaw02.VectorJoins" = some 7 by kernel_rfl).symm.trans hf) |>.symm
      obtain rfl : fn = Tryd.f7 := (Option.some.inj (Tryd.func7.symm.trans hfn)).symm
      exact ⟨by kernel_rfl, fun j t ht => by
        rw [Tryd.params7] at ht
        have h3 : t ∈ [58, 58, 66, 67] := by
          have := Array.mem_of_getElem? ht
          simpa using this
        simp only [List.mem_cons, List.not_mem_nil, or_false] at h3
        rcases h3 with rfl | rfl | rfl | rfl <;> first | exact (show Tryd.prog.wantsStandIn 58 = false by kernel_rfl) | exact (show Tryd.prog.wantsStandIn 66 = false by kernel_rfl) | exact (show Tryd.prog.wantsStandIn 67 = false by kernel_rfl)⟩)
    (by kernel_rfl)
#print axioms vectorJoinsCard_holds
end Go.Proofs.YtnfcjdgmhbhecaaDoor
