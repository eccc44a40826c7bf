import Derived.Test.YtgomhljgjmjgfaaDoorTie
import Derived.Test.YtgomhljgjmjgfaaDoorCards
import Derived.WalkKit
import Derived.ProofKit
import Derived.SizedLaws
import Derived.Handed
import Derived.Lay
import Derived.FnData
import Derived.ChangeSame
import Derived.ChangeArms
import Derived.SevenTiedAt
import Derived.Test.YtgomhljgjmjgfaaDoorLXGNE
import Derived.Test.YtgomhljgjmjgfaaDoorLA3
import Derived.Test.YtgomhljgjmjgfaaDoorLA2
set_option linter.unusedVariables false
set_option linter.unusedSimpArgs false
/- IdentShows: its row, and its tied card. -/
namespace Go.Proofs.YtgomhljgjmjgfaaDoor
open Go Go.Lift Go.ChangeShapes Go.WideShapes Go.RowKit
theorem trod_iface {H : Type} {enc : TypeId × Value → H} {P : Program} {w : World} {base fuel : Nat} {sp : Nat → Bool} {t : TypeId} {i : TypeDesc} {cs : List Value} {nm : String} {d : DataW H} {p : List MemPlace} (ht : P.underlying t = some i) (hi : ∃ m, i = .interface m)
    (h : DataW.trod enc P w base sp false fuel t cs = some (.iface nm d, p)) : ∃ u v, cs = [.iface u v] := by
  obtain ⟨m, rfl⟩ := hi
  cases fuel with
  | zero => simp [DataW.trod] at h
  | succ n =>
    unfold DataW.trod at h
    rw [ht] at h
    split at h <;> try (cases h; done)
    all_goals first
      | (rename_i e; cases e; done)
      | exact ⟨_, _, rfl⟩
theorem GOk.of_iface {W : World} {name : String} {g : Nat} {t : TypeId} {i : TypeDesc} {nm : String} {d : DataW Unit} {rest : List (String × DataW Unit)} (hg : Tryd.prog.globalNamed name = some g) (ht : (Tryd.prog.globals[g]?).map (·.type) = some t) (hu : Tryd.prog.underlying t = some i) (hi : ∃ m, i = .interface m)
    (h : laidMet Tryd.prog ((name, .iface nm d) :: rest) W) : ∃ e, isE e ∧ Rb W g ∧ TRm (Rb W) W [.v e] g 0 ∧ ∃ (arr : Array Value) (t : TypeId) (fr : Nat × Nat), W.heap[g]? = some (.cells arr t fr) ∧ arr.size = ([IV.v e]).length := by
  obtain ⟨ps, ⟨g', t', cs, fuel, p, q, e1, e2, e3, e4, e5, e6⟩, _, _⟩ := h
  rw [hg] at e1
  cases e1
  rw [ht] at e2
  cases e2
  obtain ⟨u, v, hc⟩ := trod_iface hu hi e4
  have hcs : cs = #[.iface u v] := by rw [← Array.toList_inj]; exact hc
  subst hcs
  exact ⟨.iface u v, .inr ⟨u, v, rfl⟩, GOk.one hg e3 rfl fun i x hx => by
    match i, hx with
    | 0, hx => cases hx; exact ⟨_, rfl, by unfold TR; rfl, rfl⟩
    | k + 1, hx => simp at hx⟩
end Go.Proofs.YtgomhljgjmjgfaaDoor
namespace Go.Proofs.YtgomhljgjmjgfaaDoor.identShows
open Go Go.Lift Go.ChangeShapes Go.WideShapes Go.RowKit
set_option linter.unusedVariables false

theorem own : ownKnob Tryd.prog.godebug = none := by kernel_rfl
theorem laidOut : laidOutB Tryd.prog = true := by kernel_rfl
theorem gok {W : World} (h : laidMetH Tryd.prog Rows.identShowsRow.laid W) : ∃ ev : EV, isE ev.a ∧ isE ev.b ∧ GOk ev.tab (Rb W) W := by
  have h : laidMet Tryd.prog Rows.identShowsRow.laid W := h
  have h3 := laidMet_tail (laidMet_tail h)
  have ht : Lib.TabIs Tryd.prog W _ .u64 Lib.pow10Tab := Lib.tabIs_of_head (g := 0) (t := 67) (e := 40) (n := 20) (by kernel_rfl) (by kernel_rfl) Tryd.underlying67 Tryd.underlying40 (by kernel_rfl) (by kernel_rfl) h3
  have h4 := laidMet_tail h3
  obtain ⟨eb, hb1, hb2⟩ := GOk.of_iface (g := 3) (t := 50) (by kernel_rfl) (by kernel_rfl) Tryd.underlying50 ⟨_, rfl⟩ h4
  obtain ⟨ea, ha1, ha2⟩ := GOk.of_iface (g := 2) (t := 50) (by kernel_rfl) (by kernel_rfl) Tryd.underlying50 ⟨_, rfl⟩ (laidMet_tail h4)
  refine ⟨⟨ea, eb⟩, ha1, hb1, fun x hx => ?_⟩
  simp only [EV.tab, List.mem_cons, List.not_mem_nil, or_false] at hx
  rcases hx with rfl | rfl | rfl
  · exact GOk.of_tab (by kernel_rfl) ht
  · exact ha2
  · exact hb2
theorem called (ev : EV) (he2 : isE ev.a) (he3 : isE ev.b) (A : List IV) (h : TyA [⟨true, [.int .u16, .int .u32]⟩, ⟨false, [.str]⟩] A) (hwt : SzA [[.no, .no], [.no]] A) : ∃ A', SCallG ev.tab Tryd.prog 3 A (.v (.bool true)) A' := by
  obtain ⟨c1, B1, rfl, h1, g1⟩ := h
  obtain ⟨x2, B2, rfl, h2, g2⟩ := g1.one_inv
  obtain rfl := g2.nil_inv
  obtain ⟨y1, ys1, rfl, a1, h1⟩ := h1.cons_inv
  obtain ⟨y2, ys2, rfl, a2, h1⟩ := h1.cons_inv
  obtain rfl := h1.nil_inv
  obtain ⟨r, rfl, w1⟩ := a1.int_inv
  obtain ⟨n, rfl, w2⟩ := a2.int_inv
  obtain ⟨t, rfl, w5⟩ := h2.str_inv
  have w1 := wf_u16 w1
  have w2 := wf_u32 w2
  have hs := identShows_call ev he2 he3 r.toNat n.toNat (by omega) (by omega) t.data.toList (by unfold Go.maxLen at w5; simpa using w5)
  rw [Int.toNat_of_nonneg w1.1, Int.toNat_of_nonneg w2.1, ← ba_eta t] at hs
  exact ⟨_, hs⟩
set_option maxRecDepth 100000 in
theorem lifted (os : Os) (started : os.Started) (H : Type) (enc : TypeId × Value → H) :
    ReturnsInHanded {} Tryd.checked os 3 .any (fun w args => (Rows.identShowsSpec.pre enc Tryd.prog Tryd.f3 [] false w args ∧ laidMetH Tryd.prog Rows.identShowsRow.laid w) ∧ sizedMet enc Tryd.prog Tryd.f3 (OpenSpec.ofChange Rows.identShowsSpec) false w args)
      (Rows.identShowsSpec.post enc Tryd.prog Tryd.f3 false true false false) := by
  refine returnsInHanded_of_change_and (C := Tryd.checked) (X := fun w _ => laidMetH Tryd.prog Rows.identShowsRow.laid w) (fun _ _ _ hh h => h.of_heap hh) own started (by kernel_rfl) Tryd.func3
    (ChangeSpec.witness_at (enc := enc) (C := Tryd.checked) (os := os) (X := fun w _ => laidMetH Tryd.prog Rows.identShowsRow.laid w) false (World.laidAll Tryd.prog os Rows.identShowsRow.laid) #[.agg #[(.int .u16 0), (.int .u32 0)], .string ⟨#[]⟩] 8 (World.laidAll_os _ _ _) (by kernel_rfl) (by kernel_rfl) (by kernel_rfl) (by kernel_rfl) (by kernel_rfl)
      (laidMet_laidAll (laid := Rows.identShowsRow.laid) #[.agg #[(.int .u16 0), (.int .u32 0)], .string ⟨#[]⟩] (by kernel_rfl) (by kernel_rfl))) ?_
  intro W base args ds gs before hval hW _ hsz hL _
  obtain ⟨ev, he2, he3, hG⟩ := gok hL
  refine law_contractGW (G := ev.tab) (tb := 4) (ps := [⟨true, [.int .u16, .int .u32]⟩, ⟨false, [.str]⟩]) (ws := [[.no, .no], [.no]]) laidOut rfl (fun ds h => ?_) rfl Tryd.underlying4 ?_ ?_ ?_ (called ev he2 he3) W hG base args ds gs before hval hW hsz
  · rw [Tryd.params3] at h
    rcases ds with _ | ⟨d0, _ | ⟨d1, _ | ⟨d2, ds⟩⟩⟩ <;> first | rfl | (exfalso; simp at h)
  · rw [Tryd.params3]
    intro t ht
    simp only [List.mem_cons, List.not_mem_nil, or_false] at ht
    rcases ht with rfl | rfl <;> exact ⟨by kernel_rfl, of_decide_eq_true (by kernel_rfl)⟩
  · rw [Tryd.params3]
    exact (.agg Tryd.underlying25 (.struct Tryd.underlying25 (.cons rfl (.int Tryd.underlying22) (by kernel_rfl) (.cons rfl (.int Tryd.underlying23) (by kernel_rfl) .nil)) (by kernel_rfl)) (.one Tryd.underlying9 rfl (.str Tryd.underlying9) .nil))
  · rw [Tryd.params3]
    exact (.cons (.struct Tryd.underlying25 (.cons rfl .one (by kernel_rfl) (.cons rfl .one (by kernel_rfl) .nil))) (.cons .one .nil))
theorem over : Rows.IdentShowsSaid :=
  OpenClaim.holds_of_wide 3 Tryd.f3 rfl rfl rfl rfl rfl rfl rfl ⟨rfl, rfl, rfl, rfl, rfl⟩ rfl rfl rfl rfl rfl (by kernel_rfl) Tryd.func3 (by kernel_rfl)
    (of_decide_eq_true (by kernel_rfl)) (by unfold Func.isWrapper; first | (rw [if_pos (by decide +kernel)]; kernel_rfl) | (rw [if_neg (by decide +kernel)]; exact ⟨rfl, rfl⟩))
    (fun os started H enc _ => lifted os started H enc)
end Go.Proofs.YtgomhljgjmjgfaaDoor.identShows
namespace Go.Proofs.YtgomhljgjmjgfaaDoor
open Go
set_option maxRecDepth 100000 in
theorem identShowsCard_holds : Rows.IdentShowsCardSaid :=
  Claim7.holds_tied_plain_at .later [] [.data, .data, .data, .sentinel, .sentinel] true (true, "ba332ca3e2b2651e6230dc438a4175811c70ddaebfd355991b734416be45e310") true
    identShows.over (fun _ h => by cases h) (by kernel_rfl) (fun _ h => by cases h) identShows_row_tie rfl ⟨rfl, rfl⟩ (by kernel_rfl) rfl
    (fun f fn hf hfn => by
      obtain rfl : f = 3 := Option.some.inj ((show Tryd.prog.funcNamed "copyist/copyistlaw01.IdentShows" = some 3 by kernel_rfl).symm.trans hf) |>.symm
      obtain rfl : fn = Tryd.f3 := (Option.some.inj (Tryd.func3.symm.trans hfn)).symm
      exact ⟨by kernel_rfl, fun j t ht => by
        rw [Tryd.params3] at ht
        have h3 : t ∈ [25, 9] := by
          have := Array.mem_of_getElem? ht
          simpa using this
        simp only [List.mem_cons, List.not_mem_nil, or_false] at h3
        rcases h3 with rfl | rfl <;> first | exact (show Tryd.prog.wantsStandIn 25 = false by kernel_rfl) | exact (show Tryd.prog.wantsStandIn 9 = false by kernel_rfl)⟩)
    (by kernel_rfl)
#print axioms identShowsCard_holds
end Go.Proofs.YtgomhljgjmjgfaaDoor
