/- TxnFits: its row, and its tied card. -/
import Derived.Test.YtclhjcbnpdlgbaaDoorTie
import Derived.Test.YtclhjcbnpdlgbaaDoorCards
import Derived.WalkKit
import Derived.ProofKit
import Derived.SizedLaws
import Derived.Handed
import Derived.Lay
import Derived.FnData
import Derived.ChangeSame
import Derived.ChangeArms
import Derived.SevenTiedAt
import Derived.Test.YtclhjcbnpdlgbaaDoorLXBUH
import Derived.Test.YtclhjcbnpdlgbaaDoorLA3
namespace Go.Proofs.YtclhjcbnpdlgbaaDoor.txnFits
open Go Go.Lift Go.ChangeShapes Go.WideShapes Go.RowKit
set_option linter.unusedVariables false

theorem own : ownKnob Tryd.prog.godebug = none := by kernel_rfl
theorem laidOut : laidOutB Tryd.prog = true := by kernel_rfl
theorem len2 {α : Type} : ∀ (l : List α), l.length = 2 → ∃ a b, l = [a, b]
  | [a, b], _ => ⟨a, b, rfl⟩
/-- what the condition gives: the variable's cells -/
theorem gok {W : World} (h : laidMetH Tryd.prog Rows.txnFitsRow.laid W) : GOk GT (Rb W) W := by
  have h : laidMet Tryd.prog Rows.txnFitsRow.laid W := h
  obtain ⟨ps, hl, _, hb⟩ := h
  obtain ⟨g, t, cs, fuel, p, q, e1, e2, e3, e4, e5, e6⟩ := hl
  obtain rfl : 0 = g := Option.some.inj ((show Tryd.prog.globalNamed "copyist/ident.root" = some 0 by kernel_rfl).symm.trans e1)
  obtain rfl : 25 = t := Option.some.inj ((show (Tryd.prog.globals[0]?).map (·.type) = some 25 by kernel_rfl).symm.trans e2)
  obtain ⟨y0, y1, n, f1, f2, f3, f4⟩ := trod_struct2 Tryd.underlying25 e4
  obtain ⟨r, g1, rfl, _⟩ := DataW.trod_int Tryd.underlying22 f3
  obtain ⟨m, g2, rfl, _⟩ := DataW.trod_int Tryd.underlying23 f4
  have c1 : Tryd.prog.cellsOf 22 = 1 := by kernel_rfl
  have c2 : Tryd.prog.cellsOf 23 = 1 := by kernel_rfl
  have c3 : Tryd.prog.cellsOf 25 = 2 := by kernel_rfl
  have g1 : List.take (Tryd.prog.cellsOf 22) (List.drop 0 cs.toList) = [Value.int .u16 r] := g1
  have g2 : List.take (Tryd.prog.cellsOf 23) (List.drop 1 cs.toList) = [Value.int .u32 m] := g2
  rw [c1] at g1
  rw [c2] at g2
  rw [c3] at f2
  simp only [Rows.laid_copyist_ident_root, Prod.mk.injEq, DataW.agg.injEq, List.cons.injEq, DataW.lit.injEq, Lit.int.injEq, true_and, and_true] at f1
  obtain ⟨⟨rfl, rfl⟩, _⟩ := f1
  have hcs : cs.toList = [.int .u16 0, .int .u32 0] := by
    obtain ⟨a, b, hab⟩ := len2 _ f2
    rw [hab] at g1 g2 ⊢
    simp at g1 g2
    rw [g1, g2]
  have hz : cs = #[.int .u16 0, .int .u32 0] := by rw [← Array.toList_inj]; exact hcs
  subst hz
  intro x hx
  have hx : x = (0, [.v (.int .u16 0), .v (.int .u32 0)]) := by simpa [GT] using hx
  subst hx
  refine GOk.one e1 e3 rfl fun i x hi => ?_
  match i, hi with
  | 0, hi => cases hi; exact ⟨_, rfl, by simp [TR], rfl⟩
  | 1, hi => cases hi; exact ⟨_, rfl, by simp [TR], rfl⟩
  | k + 2, hi => simp at hi
theorem ops_of {x : IV} (h : Ty (.row [.int .i64, .int .u16, .int .u32, .int .u32, .str, .row [.int .u16, .int .u32, .int .i64], .int .u32]) x) : ∃ ops : List OpV, x = .tr ops.length (encs opC ops) ∧ ∀ o ∈ ops, wfC o ∧ o.t.length ≤ 9223372036854775807 ∧ o.s.length ≤ 9223372036854775807 := by
  obtain ⟨l, h1, _, h3⟩ := row_of (f := opC) (good := fun o => wfC o ∧ o.t.length ≤ 9223372036854775807 ∧ o.s.length ≤ 9223372036854775807) (fun c h1 => by
    obtain ⟨y1, ys1, rfl, a1, h1⟩ := h1.cons_inv
    obtain ⟨y2, ys2, rfl, a2, h1⟩ := h1.cons_inv
    obtain ⟨y3, ys3, rfl, a3, h1⟩ := h1.cons_inv
    obtain ⟨y4, ys4, rfl, a4, h1⟩ := h1.cons_inv
    obtain ⟨y5, ys5, rfl, a5, h1⟩ := h1.cons_inv
    obtain ⟨y6, ys6, rfl, a6, h1⟩ := h1.cons_inv
    obtain ⟨y7, ys7, rfl, a7, h1⟩ := h1.cons_inv
    obtain rfl := h1.nil_inv
    obtain ⟨k, rfl, w1⟩ := a1.int_inv
    obtain ⟨r, rfl, w2⟩ := a2.int_inv
    obtain ⟨n, rfl, w3⟩ := a3.int_inv
    obtain ⟨m, rfl, w4⟩ := a4.int_inv
    obtain ⟨t, rfl, w5⟩ := a5.str_inv
    obtain ⟨q, rfl, w7⟩ := a7.int_inv
    obtain ⟨l, rfl, hl, hg⟩ := row_of (f := spC) (good := fun s => (0 ≤ s.2.1 ∧ s.2.1 ≤ 4294967295) ∧ (-9223372036854775808 ≤ s.2.2 ∧ s.2.2 ≤ 9223372036854775807)) (fun c hc => by
      obtain ⟨y1, ys1, rfl, a1, hc⟩ := hc.cons_inv
      obtain ⟨y2, ys2, rfl, a2, hc⟩ := hc.cons_inv
      obtain ⟨y3, ys3, rfl, a3, hc⟩ := hc.cons_inv
      obtain rfl := hc.nil_inv
      obtain ⟨r, rfl, w1⟩ := a1.int_inv
      obtain ⟨n, rfl, w2⟩ := a2.int_inv
      obtain ⟨k, rfl, w3⟩ := a3.int_inv
      exact ⟨(r, n, k), rfl, wf_u32 w2, wf_i64 w3⟩) a6
    refine ⟨⟨k, r, n, m, t.data.toList, l, q⟩, by rw [ba_eta t]; rfl, ⟨(wf_u32 w3).1, wf_u32 w4, wf_u32 w7, hg⟩, ?_, ?_⟩
    · unfold Go.maxLen at w5; simpa using w5
    · unfold Go.maxLen at hl; exact (by omega : l.length ≤ 9223372036854775807)) h
  exact ⟨l, h1, h3⟩
theorem called (A : List IV) (h : TyA [⟨true, [.int .u16, .int .u32, .int .u64, .int .i64, .row [.int .i64, .int .u16, .int .u32, .int .u32, .str, .row [.int .u16, .int .u32, .int .i64], .int .u32]]⟩, ⟨false, [.int .u32]⟩] A) (hwt : SzA [[.no, .no, .no, .no, .row 72 [.no, .no, .no, .no, .no, .row 16 [.no, .no, .no], .no]], [.no]] A) : ∃ A', SCallG GT Tryd.prog 4 A (.v (.bool true)) A' := by
  obtain ⟨xs, B1, rfl, h1, g1⟩ := h.cons_inv
  obtain ⟨x2, B2, rfl, h2, g2⟩ := g1.one_inv
  obtain rfl := g2.nil_inv
  obtain ⟨n, rfl, _⟩ := h2.int_inv
  obtain ⟨y1, ys1, rfl, a1, h1⟩ := h1.cons_inv
  obtain ⟨y2, ys2, rfl, a2, h1⟩ := h1.cons_inv
  obtain ⟨y3, ys3, rfl, a3, h1⟩ := h1.cons_inv
  obtain ⟨y4, ys4, rfl, a4, h1⟩ := h1.cons_inv
  obtain ⟨y5, ys5, rfl, a5, h1⟩ := h1.cons_inv
  obtain rfl := h1.nil_inv
  obtain ⟨r, rfl, w1⟩ := a1.int_inv
  obtain ⟨s, rfl, w2⟩ := a2.int_inv
  obtain ⟨c, rfl, w3⟩ := a3.int_inv
  obtain ⟨u, rfl, w4⟩ := a4.int_inv
  obtain ⟨ops, rfl, hg⟩ := ops_of a5
  simp only [argIV, SzA, Sz1, Szl, Sz] at hwt
  have hz := hwt.1.2.2.2.2.1 _ _ rfl
  have hb : reachBytes = 140737488351232 := rfl
  rw [hb] at hz
  exact ⟨_, txnFits_call r s c u n ops (by omega) (fun o ho => (hg o ho).1) fun o ho => (hg o ho).2⟩
set_option maxRecDepth 100000 in
theorem lifted (os : Os) (started : os.Started) (H : Type) (enc : TypeId × Value → H) :
    ReturnsInHanded {} Tryd.checked os 4 .any (fun w args => (Rows.txnFitsSpec.pre enc Tryd.prog Tryd.f4 [] false w args ∧ laidMetH Tryd.prog Rows.txnFitsRow.laid w) ∧ sizedMet enc Tryd.prog Tryd.f4 (OpenSpec.ofChange Rows.txnFitsSpec) false w args)
      (Rows.txnFitsSpec.post enc Tryd.prog Tryd.f4 false true false false) := by
  refine returnsInHanded_of_change_and (C := Tryd.checked) (X := fun w _ => laidMetH Tryd.prog Rows.txnFitsRow.laid w) (fun _ _ _ hh h => h.of_heap hh) own started (by kernel_rfl) Tryd.func4
    (ChangeSpec.witness_at (enc := enc) (C := Tryd.checked) (os := os) (X := fun w _ => laidMetH Tryd.prog Rows.txnFitsRow.laid w) false (World.laidAll Tryd.prog os Rows.txnFitsRow.laid) #[.agg #[(.int .u16 0), (.int .u32 0), (.int .u64 0), (.int .i64 0), (.slice none 0 0)], .int .u32 0] 8 (World.laidAll_os _ _ _) (by kernel_rfl) (by kernel_rfl) (by kernel_rfl) (by kernel_rfl) (by kernel_rfl)
      (laidMet_laidAll (laid := Rows.txnFitsRow.laid) #[.agg #[(.int .u16 0), (.int .u32 0), (.int .u64 0), (.int .i64 0), (.slice none 0 0)], .int .u32 0] (by kernel_rfl) (by kernel_rfl))) ?_
  intro W base args ds gs before hval hW _ hsz hL _
  refine law_contractGW (G := GT) (tb := 4) (ps := [⟨true, [.int .u16, .int .u32, .int .u64, .int .i64, .row [.int .i64, .int .u16, .int .u32, .int .u32, .str, .row [.int .u16, .int .u32, .int .i64], .int .u32]]⟩, ⟨false, [.int .u32]⟩]) (ws := [[.no, .no, .no, .no, .row 72 [.no, .no, .no, .no, .no, .row 16 [.no, .no, .no], .no]], [.no]]) laidOut rfl (fun ds h => ?_) rfl Tryd.underlying4 ?_ ?_ ?_ called W (gok hL) base args ds gs before hval hW hsz
  · rw [Tryd.params4] at h
    rcases ds with _ | ⟨d0, _ | ⟨d1, _ | ⟨d2, ds⟩⟩⟩ <;> first | rfl | (exfalso; simp at h)
  · rw [Tryd.params4]
    intro t ht
    simp only [List.mem_cons, List.not_mem_nil, or_false] at ht
    rcases ht with rfl | rfl <;> exact ⟨by kernel_rfl, of_decide_eq_true (by kernel_rfl)⟩
  · rw [Tryd.params4]
    exact (.agg Tryd.underlying44 (.struct Tryd.underlying44 (.cons rfl (.int Tryd.underlying22) (by kernel_rfl) (.cons rfl (.int Tryd.underlying23) (by kernel_rfl) (.cons rfl (.int Tryd.underlying41) (by kernel_rfl) (.cons rfl (.int Tryd.underlying3) (by kernel_rfl) (.cons rfl (.slice Tryd.underlying42 (.struct Tryd.underlying28 (.cons rfl (.int Tryd.underlying3) (by kernel_rfl) (.cons rfl (.struct Tryd.underlying25 (.cons rfl (.int Tryd.underlying22) (by kernel_rfl) (.cons rfl (.int Tryd.underlying23) (by kernel_rfl) .nil)) (by kernel_rfl)) (by kernel_rfl) (.cons rfl (.int Tryd.underlying23) (by kernel_rfl) (.cons rfl (.str Tryd.underlying9) (by kernel_rfl) (.cons rfl (.slice Tryd.underlying26 (.struct Tryd.underlying67 (.cons rfl (.struct Tryd.underlying25 (.cons rfl (.int Tryd.underlying22) (by kernel_rfl) (.cons rfl (.int Tryd.underlying23) (by kernel_rfl) .nil)) (by kernel_rfl)) (by kernel_rfl) (.cons rfl (.int Tryd.underlying3) (by kernel_rfl) .nil)) (by kernel_rfl)) (by kernel_rfl) (by decide)) (by kernel_rfl) (.cons rfl (.int Tryd.underlying23) (by kernel_rfl) .nil)))))) (by kernel_rfl)) (by kernel_rfl) (by decide)) (by kernel_rfl) .nil))))) (by kernel_rfl)) (.one Tryd.underlying23 rfl (.int Tryd.underlying23) .nil))
  · rw [Tryd.params4]
    exact (.cons (.struct Tryd.underlying44 (.cons rfl .one (by kernel_rfl) (.cons rfl .one (by kernel_rfl) (.cons rfl .one (by kernel_rfl) (.cons rfl .one (by kernel_rfl) (.cons rfl (.slice Tryd.underlying42 (by kernel_rfl) (.struct Tryd.underlying28 (.cons rfl .one (by kernel_rfl) (.cons rfl (.struct Tryd.underlying25 (.cons rfl .one (by kernel_rfl) (.cons rfl .one (by kernel_rfl) .nil))) (by kernel_rfl) (.cons rfl .one (by kernel_rfl) (.cons rfl .one (by kernel_rfl) (.cons rfl (.slice Tryd.underlying26 (by kernel_rfl) (.struct Tryd.underlying67 (.cons rfl (.struct Tryd.underlying25 (.cons rfl .one (by kernel_rfl) (.cons rfl .one (by kernel_rfl) .nil))) (by kernel_rfl) (.cons rfl .one (by kernel_rfl) .nil))) (by kernel_rfl)) (by kernel_rfl) (.cons rfl .one (by kernel_rfl) .nil))))))) (by kernel_rfl)) (by kernel_rfl) .nil)))))) (.cons .one .nil))
theorem over : Rows.TxnFitsSaid :=
  OpenClaim.holds_of_wide 4 Tryd.f4 rfl rfl rfl rfl rfl rfl rfl ⟨rfl, rfl, rfl, rfl, rfl⟩ rfl rfl rfl rfl rfl (by kernel_rfl) Tryd.func4 (by kernel_rfl)
    (of_decide_eq_true (by kernel_rfl)) (by unfold Func.isWrapper; first | (rw [if_pos (by decide +kernel)]; kernel_rfl) | (rw [if_neg (by decide +kernel)]; exact ⟨rfl, rfl⟩))
    (fun os started H enc _ => lifted os started H enc)
end Go.Proofs.YtclhjcbnpdlgbaaDoor.txnFits
namespace Go.Proofs.YtclhjcbnpdlgbaaDoor
open Go
set_option maxRecDepth 100000 in
/-- THE TIED CARD. -/
theorem txnFitsCard_holds : Rows.TxnFitsCardSaid :=
  Claim7.holds_tied_plain_at .later [] [.data] true (true, "3f7f3704a3cc68d3f20d767e0de7529f2f88e971d3f758f759e7d779368952b0") false
    txnFits.over (fun _ h => by cases h) (by kernel_rfl) (fun _ h => by cases h) txnFits_row_tie rfl ⟨rfl, rfl⟩ (by kernel_rfl) rfl
    (fun f fn hf hfn => by
      obtain rfl : f = 4 := Option.some.inj ((show Tryd.prog.funcNamed "copyist/copyistlaw09.TxnFits" = some 4 by kernel_rfl).symm.trans hf) |>.symm
      obtain rfl : fn = Tryd.f4 := (Option.some.inj (Tryd.func4.symm.trans hfn)).symm
      exact ⟨by kernel_rfl, fun j t ht => by
        rw [Tryd.params4] at ht
        have h3 : t ∈ [44, 23] := by
          have := Array.mem_of_getElem? ht
          simpa using this
        simp only [List.mem_cons, List.not_mem_nil, or_false] at h3
        rcases h3 with rfl | rfl <;> first | exact (show Tryd.prog.wantsStandIn 44 = false by kernel_rfl) | exact (show Tryd.prog.wantsStandIn 23 = false by kernel_rfl)⟩)
    (by kernel_rfl)
#print axioms txnFitsCard_holds
end Go.Proofs.YtclhjcbnpdlgbaaDoor
