import Derived.Test.YtclhjcbnpdlgbaaGreatDoorTie
import Derived.Test.YtclhjcbnpdlgbaaGreatDoorCards
import Derived.WalkKit
import Derived.ProofKit
import Derived.SizedLaws
import Derived.Handed
import Derived.Lay
import Derived.FnData
import Derived.ChangeSame
import Derived.ChangeArms
import Derived.SevenTiedAt
import Derived.Test.YtclhjcbnpdlgbaaGreatDoorLXCQH
import Derived.Test.YtclhjcbnpdlgbaaGreatDoorLA3
set_option linter.unusedVariables false
set_option linter.unusedSimpArgs false
/- WireReady: its row, and its tied card. -/
namespace Go.Proofs.YtclhjcbnpdlgbaaGreatDoor.wireReady
open Go Go.Lift Go.ChangeShapes Go.WideShapes Go.RowKit
set_option linter.unusedVariables false

theorem own : ownKnob Tryz.prog.godebug = none := by kernel_rfl
theorem laidOut : laidOutB Tryz.prog = true := by kernel_rfl
theorem len2 {α : Type} : ∀ (l : List α), l.length = 2 → ∃ a b, l = [a, b]
  | [a, b], _ => ⟨a, b, rfl⟩
theorem gok {W : World} (h : laidMetH Tryz.prog Rows.wireReadyRow.laid W) : GOk GT (Rb W) W := by
  have h : laidMet Tryz.prog Rows.wireReadyRow.laid W := h
  obtain ⟨ps, hl, _, hb⟩ := h
  obtain ⟨g, t, cs, fuel, p, q, e1, e2, e3, e4, e5, e6⟩ := hl
  obtain rfl : 0 = g := Option.some.inj ((show Tryz.prog.globalNamed "copyist/ident.root" = some 0 by kernel_rfl).symm.trans e1)
  obtain rfl : 73 = t := Option.some.inj ((show (Tryz.prog.globals[0]?).map (·.type) = some 73 by kernel_rfl).symm.trans e2)
  obtain ⟨y0, y1, n, f1, f2, f3, f4⟩ := trod_struct2 Tryz.underlying73 e4
  obtain ⟨r, g1, rfl, _⟩ := DataW.trod_int Tryz.underlying24 f3
  obtain ⟨m, g2, rfl, _⟩ := DataW.trod_int Tryz.underlying25 f4
  have c1 : Tryz.prog.cellsOf 24 = 1 := by kernel_rfl
  have c2 : Tryz.prog.cellsOf 25 = 1 := by kernel_rfl
  have c3 : Tryz.prog.cellsOf 73 = 2 := by kernel_rfl
  have g1 : List.take (Tryz.prog.cellsOf 24) (List.drop 0 cs.toList) = [Value.int .u16 r] := g1
  have g2 : List.take (Tryz.prog.cellsOf 25) (List.drop 1 cs.toList) = [Value.int .u32 m] := g2
  rw [c1] at g1
  rw [c2] at g2
  rw [c3] at f2
  simp only [Rows.laid_copyist_ident_root, Prod.mk.injEq, DataW.agg.injEq, List.cons.injEq, DataW.lit.injEq, Lit.int.injEq, true_and, and_true] at f1
  obtain ⟨⟨rfl, rfl⟩, _⟩ := f1
  have hcs : cs.toList = [.int .u16 0, .int .u32 0] := by
    obtain ⟨a, b, hab⟩ := len2 _ f2
    rw [hab] at g1 g2 ⊢
    simp at g1 g2
    rw [g1, g2]
  have hz : cs = #[.int .u16 0, .int .u32 0] := by rw [← Array.toList_inj]; exact hcs
  subst hz
  intro x hx
  have hx : x = (0, [.v (.int .u16 0), .v (.int .u32 0)]) := by simpa [GT] using hx
  subst hx
  refine GOk.one e1 e3 rfl fun i x hi => ?_
  match i, hi with
  | 0, hi => cases hi; exact ⟨_, rfl, by simp [TR], rfl⟩
  | 1, hi => cases hi; exact ⟨_, rfl, by simp [TR], rfl⟩
  | k + 2, hi => simp at hi
theorem ops_of {x : IV} (h : Ty (.row [.int .i64, .int .u16, .int .u32, .int .u32, .str, .row [.int .u16, .int .u32, .int .i64], .int .u32]) x) : ∃ ops : List OpV, x = .tr ops.length (encs opC ops) ∧ ∀ o ∈ ops, (wfC o ∧ (0 ≤ o.r ∧ o.r ≤ 65535) ∧ ∀ x ∈ o.s, 0 ≤ x.1 ∧ x.1 ≤ 65535) ∧ o.t.length ≤ 9223372036854775807 ∧ o.s.length ≤ 9223372036854775807 := by
  obtain ⟨l, h1, _, h3⟩ := row_of (f := opC) (good := fun o => (wfC o ∧ (0 ≤ o.r ∧ o.r ≤ 65535) ∧ ∀ x ∈ o.s, 0 ≤ x.1 ∧ x.1 ≤ 65535) ∧ o.t.length ≤ 9223372036854775807 ∧ o.s.length ≤ 9223372036854775807) (fun c h1 => by
    obtain ⟨y1, ys1, rfl, a1, h1⟩ := h1.cons_inv
    obtain ⟨y2, ys2, rfl, a2, h1⟩ := h1.cons_inv
    obtain ⟨y3, ys3, rfl, a3, h1⟩ := h1.cons_inv
    obtain ⟨y4, ys4, rfl, a4, h1⟩ := h1.cons_inv
    obtain ⟨y5, ys5, rfl, a5, h1⟩ := h1.cons_inv
    obtain ⟨y6, ys6, rfl, a6, h1⟩ := h1.cons_inv
    obtain ⟨y7, ys7, rfl, a7, h1⟩ := h1.cons_inv
    obtain rfl := h1.nil_inv
    obtain ⟨k, rfl, w1⟩ := a1.int_inv
    obtain ⟨r, rfl, w2⟩ := a2.int_inv
    obtain ⟨n, rfl, w3⟩ := a3.int_inv
    obtain ⟨m, rfl, w4⟩ := a4.int_inv
    obtain ⟨t, rfl, w5⟩ := a5.str_inv
    obtain ⟨q, rfl, w7⟩ := a7.int_inv
    obtain ⟨l, rfl, hl, hg⟩ := row_of (f := spC) (good := fun s => ((0 ≤ s.2.1 ∧ s.2.1 ≤ 4294967295) ∧ (-9223372036854775808 ≤ s.2.2 ∧ s.2.2 ≤ 9223372036854775807)) ∧ (0 ≤ s.1 ∧ s.1 ≤ 65535)) (fun c hc => by
      obtain ⟨y1, ys1, rfl, a1, hc⟩ := hc.cons_inv
      obtain ⟨y2, ys2, rfl, a2, hc⟩ := hc.cons_inv
      obtain ⟨y3, ys3, rfl, a3, hc⟩ := hc.cons_inv
      obtain rfl := hc.nil_inv
      obtain ⟨r, rfl, w1⟩ := a1.int_inv
      obtain ⟨n, rfl, w2⟩ := a2.int_inv
      obtain ⟨k, rfl, w3⟩ := a3.int_inv
      exact ⟨(r, n, k), rfl, ⟨wf_u32 w2, wf_i64 w3⟩, wf_u16 w1⟩) a6
    refine ⟨⟨k, r, n, m, t.data.toList, l, q⟩, by rw [ba_eta t]; rfl, ⟨⟨(wf_u32 w3).1, wf_u32 w4, wf_u32 w7, fun x hx => (hg x hx).1⟩, wf_u16 w2, fun x hx => (hg x hx).2⟩, ?_, ?_⟩
    · unfold Go.maxLen at w5; simpa using w5
    · unfold Go.maxLen at hl; exact (by omega : l.length ≤ 9223372036854775807)) h
  exact ⟨l, h1, h3⟩
theorem deps_of {x : IV} (h : Ty (.row [.int .u16, .int .u32]) x) : ∃ d : List Vc.Ve, x = .tr d.length (encs Vc.veC d) ∧ d.length ≤ 9223372036854775807 ∧ wfD d := by
  obtain ⟨l, h1, h2, h3⟩ := row_of (f := Vc.veC) (good := fun s => (0 ≤ s.1 ∧ s.1 ≤ 65535) ∧ (0 ≤ s.2 ∧ s.2 ≤ 4294967295)) (fun c hc => by
    obtain ⟨y1, ys1, rfl, a1, hc⟩ := hc.cons_inv
    obtain ⟨y2, ys2, rfl, a2, hc⟩ := hc.cons_inv
    obtain rfl := hc.nil_inv
    obtain ⟨r, rfl, w1⟩ := a1.int_inv
    obtain ⟨n, rfl, w2⟩ := a2.int_inv
    exact ⟨(r, n), rfl, wf_u16 w1, wf_u32 w2⟩) h
  exact ⟨l, h1, by unfold Go.maxLen at h2; omega, h3⟩
theorem called (A : List IV) (h : TyA [⟨true, [.row [.int .u16, .int .u32], .int .u16, .int .u32, .int .u64, .int .i64, .row [.int .i64, .int .u16, .int .u32, .int .u32, .str, .row [.int .u16, .int .u32, .int .i64], .int .u32]]⟩, ⟨false, [.row [.int .u16, .int .u32]]⟩, ⟨false, [.int .i64]⟩] A) (hwt : SzA [[.row 8 [.no, .no], .no, .no, .no, .no, .row 72 [.no, .no, .no, .no, .no, .row 16 [.no, .no, .no], .no]], [.row 8 [.no, .no]], [.no]] A) : ∃ A', SCallG GT Tryz.prog 6 A (.v (.bool true)) A' := by
  obtain ⟨xs, B1, rfl, h1, g1⟩ := h.cons_inv
  obtain ⟨x2, B2, rfl, k2, g2⟩ := g1.one_inv
  obtain ⟨x3, B3, rfl, k3, g3⟩ := g2.one_inv
  obtain rfl := g3.nil_inv
  obtain ⟨v, rfl, hvl, hvw⟩ := deps_of k2
  obtain ⟨i, rfl, v3⟩ := k3.int_inv
  obtain ⟨y0, ys0, rfl, a0, h1⟩ := h1.cons_inv
  obtain ⟨y1, ys1, rfl, a1, h1⟩ := h1.cons_inv
  obtain ⟨y2, ys2, rfl, a2, h1⟩ := h1.cons_inv
  obtain ⟨y3, ys3, rfl, a3, h1⟩ := h1.cons_inv
  obtain ⟨y4, ys4, rfl, a4, h1⟩ := h1.cons_inv
  obtain ⟨y5, ys5, rfl, a5, h1⟩ := h1.cons_inv
  obtain rfl := h1.nil_inv
  obtain ⟨d, rfl, hdl, hdw⟩ := deps_of a0
  obtain ⟨r, rfl, w1⟩ := a1.int_inv
  obtain ⟨s, rfl, w2⟩ := a2.int_inv
  obtain ⟨c, rfl, w3⟩ := a3.int_inv
  obtain ⟨u, rfl, w4⟩ := a4.int_inv
  obtain ⟨ops, rfl, hg⟩ := ops_of a5
  simp only [argIV, SzA, Sz1, Szl, Sz] at hwt
  have hz0 := hwt.1.1 _ _ rfl
  have hz := hwt.1.2.2.2.2.2.1 _ _ rfl
  have hz2 := hwt.2.1.1 _ _ rfl
  have hb : reachBytes = 140737488351232 := rfl
  rw [hb] at hz hz0 hz2
  have h16 : ∀ o ∈ ops, o.s.length * 16 ≤ 140737488355328 := fun o ho => by
    obtain ⟨i, hi, rfl⟩ := List.mem_iff_getElem.1 ho
    have h2 := hz.2 i hi
    rw [show (([.no, .no, .no, .no, .no, .row 16 [.no, .no, .no], .no] : List WSh).length) = 7 from rfl, encs_at opC_length (List.getElem?_eq_getElem hi)] at h2
    simp only [opC, opL, Szl, Sz] at h2
    have := (h2.2.2.2.2.2.1 _ _ rfl).1
    omega
  exact ⟨_, wireReady_call d v r s c u i ops (by omega) (by omega) (by omega) h16 (fun o ho => (hg o ho).2) hdw hvw (wf_u16 w1) (fun o ho => (hg o ho).1.1) (wf_i64 v3)⟩
set_option maxRecDepth 100000 in
theorem lifted (os : Os) (started : os.Started) (H : Type) (enc : TypeId × Value → H) :
    ReturnsInHanded {} Tryz.checked os 6 .any (fun w args => (Rows.wireReadySpec.pre enc Tryz.prog Tryz.f6 [] false w args ∧ laidMetH Tryz.prog Rows.wireReadyRow.laid w) ∧ sizedMet enc Tryz.prog Tryz.f6 (OpenSpec.ofChange Rows.wireReadySpec) false w args)
      (Rows.wireReadySpec.post enc Tryz.prog Tryz.f6 false true false false) := by
  refine returnsInHanded_of_change_and (C := Tryz.checked) (X := fun w _ => laidMetH Tryz.prog Rows.wireReadyRow.laid w) (fun _ _ _ hh h => h.of_heap hh) own started (by kernel_rfl) Tryz.func6
    (ChangeSpec.witness_at (enc := enc) (C := Tryz.checked) (os := os) (X := fun w _ => laidMetH Tryz.prog Rows.wireReadyRow.laid w) false (World.laidAll Tryz.prog os Rows.wireReadyRow.laid) #[.agg #[(.slice none 0 0), (.int .u16 0), (.int .u32 0), (.int .u64 0), (.int .i64 0), (.slice none 0 0)], .slice none 0 0, .int .i64 0] 8 (World.laidAll_os _ _ _) (by kernel_rfl) (by kernel_rfl) (by kernel_rfl) (by kernel_rfl) (by kernel_rfl)
      (laidMet_laidAll (laid := Rows.wireReadyRow.laid) #[.agg #[(.slice none 0 0), (.int .u16 0), (.int .u32 0), (.int .u64 0), (.int .i64 0), (.slice none 0 0)], .slice none 0 0, .int .i64 0] (by kernel_rfl) (by kernel_rfl))) ?_
  intro W base args ds gs before hval hW _ hsz hL _
  refine law_contractGW (G := GT) (tb := 4) (ps := [⟨true, [.row [.int .u16, .int .u32], .int .u16, .int .u32, .int .u64, .int .i64, .row [.int .i64, .int .u16, .int .u32, .int .u32, .str, .row [.int .u16, .int .u32, .int .i64], .int .u32]]⟩, ⟨false, [.row [.int .u16, .int .u32]]⟩, ⟨false, [.int .i64]⟩]) (ws := [[.row 8 [.no, .no], .no, .no, .no, .no, .row 72 [.no, .no, .no, .no, .no, .row 16 [.no, .no, .no], .no]], [.row 8 [.no, .no]], [.no]]) laidOut rfl (fun ds h => ?_) rfl Tryz.underlying4 ?_ ?_ ?_ called W (gok hL) base args ds gs before hval hW hsz
  · rw [Tryz.params6] at h
    rcases ds with _ | ⟨d0, _ | ⟨d1, _ | ⟨d2, _ | ⟨d3, ds⟩⟩⟩⟩ <;> first | rfl | (exfalso; simp at h)
  · rw [Tryz.params6]
    intro t ht
    simp only [List.mem_cons, List.not_mem_nil, or_false] at ht
    rcases ht with rfl | rfl | rfl <;> exact ⟨by kernel_rfl, of_decide_eq_true (by kernel_rfl)⟩
  · rw [Tryz.params6]
    exact (.agg Tryz.underlying31 (.struct Tryz.underlying31 (.cons rfl (.slice Tryz.underlying23 (.struct Tryz.underlying88 (.cons rfl (.int Tryz.underlying24) (by kernel_rfl) (.cons rfl (.int Tryz.underlying25) (by kernel_rfl) .nil)) (by kernel_rfl)) (by kernel_rfl) (by decide)) (by kernel_rfl) (.cons rfl (.struct Tryz.underlying29 (.cons rfl (.int Tryz.underlying24) (by kernel_rfl) (.cons rfl (.int Tryz.underlying25) (by kernel_rfl) (.cons rfl (.int Tryz.underlying26) (by kernel_rfl) (.cons rfl (.int Tryz.underlying3) (by kernel_rfl) (.cons rfl (.slice Tryz.underlying27 (.struct Tryz.underlying79 (.cons rfl (.int Tryz.underlying3) (by kernel_rfl) (.cons rfl (.struct Tryz.underlying73 (.cons rfl (.int Tryz.underlying24) (by kernel_rfl) (.cons rfl (.int Tryz.underlying25) (by kernel_rfl) .nil)) (by kernel_rfl)) (by kernel_rfl) (.cons rfl (.int Tryz.underlying25) (by kernel_rfl) (.cons rfl (.str Tryz.underlying9) (by kernel_rfl) (.cons rfl (.slice Tryz.underlying77 (.struct Tryz.underlying156 (.cons rfl (.struct Tryz.underlying73 (.cons rfl (.int Tryz.underlying24) (by kernel_rfl) (.cons rfl (.int Tryz.underlying25) (by kernel_rfl) .nil)) (by kernel_rfl)) (by kernel_rfl) (.cons rfl (.int Tryz.underlying3) (by kernel_rfl) .nil)) (by kernel_rfl)) (by kernel_rfl) (by decide)) (by kernel_rfl) (.cons rfl (.int Tryz.underlying25) (by kernel_rfl) .nil)))))) (by kernel_rfl)) (by kernel_rfl) (by decide)) (by kernel_rfl) .nil))))) (by kernel_rfl)) (by kernel_rfl) .nil)) (by kernel_rfl)) (.one Tryz.underlying23 rfl (.slice Tryz.underlying23 (.struct Tryz.underlying88 (.cons rfl (.int Tryz.underlying24) (by kernel_rfl) (.cons rfl (.int Tryz.underlying25) (by kernel_rfl) .nil)) (by kernel_rfl)) (by kernel_rfl) (by decide)) (.one Tryz.underlying3 rfl (.int Tryz.underlying3) .nil)))
  · rw [Tryz.params6]
    exact (.cons (.struct Tryz.underlying31 (.cons rfl (.slice Tryz.underlying23 (by kernel_rfl) (.struct Tryz.underlying88 (.cons rfl .one (by kernel_rfl) (.cons rfl .one (by kernel_rfl) .nil))) (by kernel_rfl)) (by kernel_rfl) (.cons rfl (.struct Tryz.underlying29 (.cons rfl .one (by kernel_rfl) (.cons rfl .one (by kernel_rfl) (.cons rfl .one (by kernel_rfl) (.cons rfl .one (by kernel_rfl) (.cons rfl (.slice Tryz.underlying27 (by kernel_rfl) (.struct Tryz.underlying79 (.cons rfl .one (by kernel_rfl) (.cons rfl (.struct Tryz.underlying73 (.cons rfl .one (by kernel_rfl) (.cons rfl .one (by kernel_rfl) .nil))) (by kernel_rfl) (.cons rfl .one (by kernel_rfl) (.cons rfl .one (by kernel_rfl) (.cons rfl (.slice Tryz.underlying77 (by kernel_rfl) (.struct Tryz.underlying156 (.cons rfl (.struct Tryz.underlying73 (.cons rfl .one (by kernel_rfl) (.cons rfl .one (by kernel_rfl) .nil))) (by kernel_rfl) (.cons rfl .one (by kernel_rfl) .nil))) (by kernel_rfl)) (by kernel_rfl) (.cons rfl .one (by kernel_rfl) .nil))))))) (by kernel_rfl)) (by kernel_rfl) .nil)))))) (by kernel_rfl) .nil))) (.cons (.slice Tryz.underlying23 (by kernel_rfl) (.struct Tryz.underlying88 (.cons rfl .one (by kernel_rfl) (.cons rfl .one (by kernel_rfl) .nil))) (by kernel_rfl)) (.cons .one .nil)))
theorem over : Rows.WireReadySaid :=
  OpenClaim.holds_of_wide 6 Tryz.f6 rfl rfl rfl rfl rfl rfl rfl ⟨rfl, rfl, rfl, rfl, rfl⟩ rfl rfl rfl rfl rfl (by kernel_rfl) Tryz.func6 (by kernel_rfl)
    (of_decide_eq_true (by kernel_rfl)) (by unfold Func.isWrapper; first | (rw [if_pos (by decide +kernel)]; kernel_rfl) | (rw [if_neg (by decide +kernel)]; exact ⟨rfl, rfl⟩))
    (fun os started H enc _ => lifted os started H enc)
end Go.Proofs.YtclhjcbnpdlgbaaGreatDoor.wireReady
namespace Go.Proofs.YtclhjcbnpdlgbaaGreatDoor
open Go
set_option maxRecDepth 100000 in
theorem wireReadyCard_holds : Rows.WireReadyCardSaid :=
  Claim7.holds_tied_plain_at .later [] [.data] true (true, "003eb8893df8a691bd1ffb9978fe5d26ddf67d21a19b756d79b6cc3443ab6641") false
    wireReady.over (fun _ h => by cases h) (by kernel_rfl) (fun _ h => by cases h) wireReady_row_tie rfl ⟨rfl, rfl⟩ (by kernel_rfl) rfl
    (fun f fn hf hfn => by
      obtain rfl : f = 6 := Option.some.inj ((show Tryz.prog.funcNamed "copyist/copyistlaw10.WireReady" = some 6 by kernel_rfl).symm.trans hf) |>.symm
      obtain rfl : fn = Tryz.f6 := (Option.some.inj (Tryz.func6.symm.trans hfn)).symm
      exact ⟨by kernel_rfl, fun j t ht => by
        rw [Tryz.params6] at ht
        have h3 : t ∈ [31, 23, 3] := by
          have := Array.mem_of_getElem? ht
          simpa using this
        simp only [List.mem_cons, List.not_mem_nil, or_false] at h3
        rcases h3 with rfl | rfl | rfl <;> first | exact (show Tryz.prog.wantsStandIn 31 = false by kernel_rfl) | exact (show Tryz.prog.wantsStandIn 23 = false by kernel_rfl) | exact (show Tryz.prog.wantsStandIn 3 = false by kernel_rfl)⟩)
    (by kernel_rfl)
#print axioms wireReadyCard_holds
end Go.Proofs.YtclhjcbnpdlgbaaGreatDoor
