/- TxnBytes: its row, and its tied card. -/
import Derived.Test.YtolbmgkoifchfaaDoorTie
import Derived.Test.YtolbmgkoifchfaaDoorCards
import Derived.WalkKit
import Derived.ProofKit
import Derived.SizedLaws
import Derived.Handed
import Derived.Lay
import Derived.FnData
import Derived.ChangeSame
import Derived.ChangeArms
import Derived.SevenTiedAt
import Derived.Test.YtolbmgkoifchfaaDoorLX6UC
import Derived.Test.YtolbmgkoifchfaaDoorLA3
namespace Go.Proofs.YtolbmgkoifchfaaDoor.txnBytes
open Go Go.Lift Go.ChangeShapes Go.WideShapes Go.RowKit
set_option linter.unusedVariables false

theorem own : ownKnob Tryd.prog.godebug = none := by kernel_rfl
theorem laidOut : laidOutB Tryd.prog = true := by kernel_rfl
theorem len2 {α : Type} : ∀ (l : List α), l.length = 2 → ∃ a b, l = [a, b]
  | [a, b], _ => ⟨a, b, rfl⟩
/-- what the condition gives: the variable's cells -/
theorem gok {W : World} (h : laidMetH Tryd.prog Rows.txnBytesRow.laid W) : GOk GT (Rb W) W := by
  have h : laidMet Tryd.prog Rows.txnBytesRow.laid W := h
  obtain ⟨ps, hl, _, hb⟩ := h
  obtain ⟨g, t, cs, fuel, p, q, e1, e2, e3, e4, e5, e6⟩ := hl
  obtain rfl : 0 = g := Option.some.inj ((show Tryd.prog.globalNamed "copyist/ident.root" = some 0 by kernel_rfl).symm.trans e1)
  obtain rfl : 53 = t := Option.some.inj ((show (Tryd.prog.globals[0]?).map (·.type) = some 53 by kernel_rfl).symm.trans e2)
  obtain ⟨y0, y1, n, f1, f2, f3, f4⟩ := trod_struct2 Tryd.underlying53 e4
  obtain ⟨r, g1, rfl, _⟩ := DataW.trod_int Tryd.underlying26 f3
  obtain ⟨m, g2, rfl, _⟩ := DataW.trod_int Tryd.underlying27 f4
  have c1 : Tryd.prog.cellsOf 26 = 1 := by kernel_rfl
  have c2 : Tryd.prog.cellsOf 27 = 1 := by kernel_rfl
  have c3 : Tryd.prog.cellsOf 53 = 2 := by kernel_rfl
  have g1 : List.take (Tryd.prog.cellsOf 26) (List.drop 0 cs.toList) = [Value.int .u16 r] := g1
  have g2 : List.take (Tryd.prog.cellsOf 27) (List.drop 1 cs.toList) = [Value.int .u32 m] := g2
  rw [c1] at g1
  rw [c2] at g2
  rw [c3] at f2
  simp only [Rows.laid_copyist_ident_root, Prod.mk.injEq, DataW.agg.injEq, List.cons.injEq, DataW.lit.injEq, Lit.int.injEq, true_and, and_true] at f1
  obtain ⟨⟨rfl, rfl⟩, _⟩ := f1
  have hcs : cs.toList = [.int .u16 0, .int .u32 0] := by
    obtain ⟨a, b, hab⟩ := len2 _ f2
    rw [hab] at g1 g2 ⊢
    simp at g1 g2
    rw [g1, g2]
  have hz : cs = #[.int .u16 0, .int .u32 0] := by rw [← Array.toList_inj]; exact hcs
  subst hz
  have d0 := World.var?_cell e1 e3 0
  have d1 := World.var?_cell e1 e3 1
  obtain ⟨⟨c, t, hh⟩, _⟩ := hb 0 0 (by rw [e6]; simp [MemPlace.row])
  intro x hx
  have hx : x = (0, [.v (.int .u16 0), .v (.int .u32 0)]) := by simpa [GT] using hx
  subst hx
  refine ⟨lt_of_heap hh, TRm.of_get fun i x hi => ?_⟩
  match i, hi with
  | 0, hi => cases hi; exact ⟨_, by simpa using d0, by simp [TR], rfl⟩
  | 1, hi => cases hi; exact ⟨_, by simpa using d1, by simp [TR], rfl⟩
  | k + 2, hi => simp at hi
theorem ops_of {x : IV} (h : Ty (.row [.int .i64, .int .u16, .int .u32, .int .u32, .str, .row [.int .u16, .int .u32, .int .i64], .int .u32]) x) : ∃ ops : List OpV, x = .tr ops.length (encs opC ops) ∧ ∀ o ∈ ops, wfO o ∧ o.t.length ≤ 9223372036854775807 ∧ o.s.length ≤ 9223372036854775807 := by
  obtain ⟨l, h1, _, h3⟩ := row_of (f := opC) (good := fun o => wfO o ∧ o.t.length ≤ 9223372036854775807 ∧ o.s.length ≤ 9223372036854775807) (fun c h1 => by
    obtain ⟨y1, ys1, rfl, a1, h1⟩ := h1.cons_inv
    obtain ⟨y2, ys2, rfl, a2, h1⟩ := h1.cons_inv
    obtain ⟨y3, ys3, rfl, a3, h1⟩ := h1.cons_inv
    obtain ⟨y4, ys4, rfl, a4, h1⟩ := h1.cons_inv
    obtain ⟨y5, ys5, rfl, a5, h1⟩ := h1.cons_inv
    obtain ⟨y6, ys6, rfl, a6, h1⟩ := h1.cons_inv
    obtain ⟨y7, ys7, rfl, a7, h1⟩ := h1.cons_inv
    obtain rfl := h1.nil_inv
    obtain ⟨k, rfl, w1⟩ := a1.int_inv
    obtain ⟨r, rfl, w2⟩ := a2.int_inv
    obtain ⟨n, rfl, w3⟩ := a3.int_inv
    obtain ⟨m, rfl, w4⟩ := a4.int_inv
    obtain ⟨t, rfl, w5⟩ := a5.str_inv
    obtain ⟨q, rfl, w7⟩ := a7.int_inv
    obtain ⟨l, rfl, hl, hg⟩ := row_of (f := spC) (good := fun s => 0 ≤ s.1 ∧ s.1 ≤ 65535) (fun c hc => by
      obtain ⟨y1, ys1, rfl, a1, hc⟩ := hc.cons_inv
      obtain ⟨y2, ys2, rfl, a2, hc⟩ := hc.cons_inv
      obtain ⟨y3, ys3, rfl, a3, hc⟩ := hc.cons_inv
      obtain rfl := hc.nil_inv
      obtain ⟨r, rfl, w1⟩ := a1.int_inv
      obtain ⟨n, rfl, _⟩ := a2.int_inv
      obtain ⟨k, rfl, _⟩ := a3.int_inv
      exact ⟨(r, n, k), rfl, wf_u16 w1⟩) a6
    refine ⟨⟨k, r, n, m, t.data.toList, l, q⟩, by rw [ba_eta t]; rfl, ⟨wf_u16 w2, wf_u32 w3, wf_u32 w4, wf_u32 w7, hg⟩, ?_, ?_⟩
    · unfold Go.maxLen at w5; simpa using w5
    · unfold Go.maxLen at hl; exact (by omega : l.length ≤ 9223372036854775807)) h
  exact ⟨l, h1, h3⟩
theorem called (A : List IV) (h : TyA [⟨true, [.int .u16, .int .u32, .int .u64, .int .i64, .row [.int .i64, .int .u16, .int .u32, .int .u32, .str, .row [.int .u16, .int .u32, .int .i64], .int .u32]]⟩] A) (hwt : SzA [[.no, .no, .no, .no, .row 72 [.no, .no, .no, .no, .no, .row 16 [.no, .no, .no], .no]]] A) : ∃ A', SCallG GT Tryd.prog 4 A (.v (.bool true)) A' := by
  obtain ⟨xs, B1, rfl, h1, g1⟩ := h.cons_inv
  obtain rfl := g1.nil_inv
  obtain ⟨y1, ys1, rfl, a1, h1⟩ := h1.cons_inv
  obtain ⟨y2, ys2, rfl, a2, h1⟩ := h1.cons_inv
  obtain ⟨y3, ys3, rfl, a3, h1⟩ := h1.cons_inv
  obtain ⟨y4, ys4, rfl, a4, h1⟩ := h1.cons_inv
  obtain ⟨y5, ys5, rfl, a5, h1⟩ := h1.cons_inv
  obtain rfl := h1.nil_inv
  obtain ⟨r, rfl, w1⟩ := a1.int_inv
  obtain ⟨s, rfl, w2⟩ := a2.int_inv
  obtain ⟨c, rfl, w3⟩ := a3.int_inv
  obtain ⟨u, rfl, w4⟩ := a4.int_inv
  obtain ⟨ops, rfl, hg⟩ := ops_of a5
  simp only [argIV, SzA, Sz1, Szl, Sz] at hwt
  have hz := hwt.1.2.2.2.2.1 _ _ rfl
  have hb : reachBytes = 140737488351232 := rfl
  rw [hb] at hz
  refine ⟨_, txnBytes_call r s c u ops (by omega) (wf_u16 w1) (wf_u32 w2) (fun o ho => (hg o ho).1) (fun o ho => (hg o ho).2) fun o ho => ?_⟩
  obtain ⟨i, hi, rfl⟩ := List.mem_iff_getElem.1 ho
  have h2 := hz.2 i hi
  rw [show (([.no, .no, .no, .no, .no, .row 16 [.no, .no, .no], .no] : List WSh).length) = 7 from rfl, encs_at opC_length (List.getElem?_eq_getElem hi)] at h2
  simp only [opC, opL, Szl, Sz] at h2
  have := (h2.2.2.2.2.2.1 _ _ rfl).1
  omega
set_option maxRecDepth 100000 in
theorem lifted (os : Os) (started : os.Started) (H : Type) (enc : TypeId × Value → H) :
    ReturnsInHanded {} Tryd.checked os 4 .any (fun w args => (Rows.txnBytesSpec.pre enc Tryd.prog Tryd.f4 [] false w args ∧ laidMetH Tryd.prog Rows.txnBytesRow.laid w) ∧ sizedMet enc Tryd.prog Tryd.f4 (OpenSpec.ofChange Rows.txnBytesSpec) false w args)
      (Rows.txnBytesSpec.post enc Tryd.prog Tryd.f4 false true false false) := by
  refine returnsInHanded_of_change_and (C := Tryd.checked) (X := fun w _ => laidMetH Tryd.prog Rows.txnBytesRow.laid w) (fun _ _ _ hh h => h.of_heap hh) own started (by kernel_rfl) Tryd.func4
    (ChangeSpec.witness_at (enc := enc) (C := Tryd.checked) (os := os) (X := fun w _ => laidMetH Tryd.prog Rows.txnBytesRow.laid w) false (World.laidAll Tryd.prog os Rows.txnBytesRow.laid) #[.agg #[(.int .u16 0), (.int .u32 0), (.int .u64 0), (.int .i64 0), (.slice none 0 0)]] 8 (World.laidAll_os _ _ _) (by kernel_rfl) (by kernel_rfl) (by kernel_rfl) (by kernel_rfl) (by kernel_rfl)
      (laidMet_laidAll (laid := Rows.txnBytesRow.laid) #[.agg #[(.int .u16 0), (.int .u32 0), (.int .u64 0), (.int .i64 0), (.slice none 0 0)]] (by kernel_rfl) (by kernel_rfl))) ?_
  intro W base args ds gs before hval hW _ hsz hL _
  refine law_contractGW (G := GT) (tb := 4) (ps := [⟨true, [.int .u16, .int .u32, .int .u64, .int .i64, .row [.int .i64, .int .u16, .int .u32, .int .u32, .str, .row [.int .u16, .int .u32, .int .i64], .int .u32]]⟩]) (ws := [[.no, .no, .no, .no, .row 72 [.no, .no, .no, .no, .no, .row 16 [.no, .no, .no], .no]]]) laidOut rfl (fun ds h => ?_) rfl Tryd.underlying4 ?_ ?_ ?_ called W (gok hL) base args ds gs before hval hW hsz
  · rw [Tryd.params4] at h
    rcases ds with _ | ⟨d0, _ | ⟨d1, ds⟩⟩ <;> first | rfl | (exfalso; simp at h)
  · rw [Tryd.params4]
    intro t ht
    simp only [List.mem_cons, List.not_mem_nil, or_false] at ht
    rcases ht with rfl <;> exact ⟨by kernel_rfl, of_decide_eq_true (by kernel_rfl)⟩
  · rw [Tryd.params4]
    exact (.agg Tryd.underlying31 (.struct Tryd.underlying31 (.cons rfl (.int Tryd.underlying26) (by kernel_rfl) (.cons rfl (.int Tryd.underlying27) (by kernel_rfl) (.cons rfl (.int Tryd.underlying28) (by kernel_rfl) (.cons rfl (.int Tryd.underlying3) (by kernel_rfl) (.cons rfl (.slice Tryd.underlying29 (.struct Tryd.underlying56 (.cons rfl (.int Tryd.underlying3) (by kernel_rfl) (.cons rfl (.struct Tryd.underlying53 (.cons rfl (.int Tryd.underlying26) (by kernel_rfl) (.cons rfl (.int Tryd.underlying27) (by kernel_rfl) .nil)) (by kernel_rfl)) (by kernel_rfl) (.cons rfl (.int Tryd.underlying27) (by kernel_rfl) (.cons rfl (.str Tryd.underlying9) (by kernel_rfl) (.cons rfl (.slice Tryd.underlying54 (.struct Tryd.underlying100 (.cons rfl (.struct Tryd.underlying53 (.cons rfl (.int Tryd.underlying26) (by kernel_rfl) (.cons rfl (.int Tryd.underlying27) (by kernel_rfl) .nil)) (by kernel_rfl)) (by kernel_rfl) (.cons rfl (.int Tryd.underlying3) (by kernel_rfl) .nil)) (by kernel_rfl)) (by kernel_rfl) (by decide)) (by kernel_rfl) (.cons rfl (.int Tryd.underlying27) (by kernel_rfl) .nil)))))) (by kernel_rfl)) (by kernel_rfl) (by decide)) (by kernel_rfl) .nil))))) (by kernel_rfl)) .nil)
  · rw [Tryd.params4]
    exact (.cons (.struct Tryd.underlying31 (.cons rfl .one (by kernel_rfl) (.cons rfl .one (by kernel_rfl) (.cons rfl .one (by kernel_rfl) (.cons rfl .one (by kernel_rfl) (.cons rfl (.slice Tryd.underlying29 (by kernel_rfl) (.struct Tryd.underlying56 (.cons rfl .one (by kernel_rfl) (.cons rfl (.struct Tryd.underlying53 (.cons rfl .one (by kernel_rfl) (.cons rfl .one (by kernel_rfl) .nil))) (by kernel_rfl) (.cons rfl .one (by kernel_rfl) (.cons rfl .one (by kernel_rfl) (.cons rfl (.slice Tryd.underlying54 (by kernel_rfl) (.struct Tryd.underlying100 (.cons rfl (.struct Tryd.underlying53 (.cons rfl .one (by kernel_rfl) (.cons rfl .one (by kernel_rfl) .nil))) (by kernel_rfl) (.cons rfl .one (by kernel_rfl) .nil))) (by kernel_rfl)) (by kernel_rfl) (.cons rfl .one (by kernel_rfl) .nil))))))) (by kernel_rfl)) (by kernel_rfl) .nil)))))) .nil)
theorem over : Rows.TxnBytesSaid :=
  OpenClaim.holds_of_wide 4 Tryd.f4 rfl rfl rfl rfl rfl rfl rfl ⟨rfl, rfl, rfl, rfl, rfl⟩ rfl rfl rfl rfl rfl (by kernel_rfl) Tryd.func4 (by kernel_rfl)
    (of_decide_eq_true (by kernel_rfl)) (by unfold Func.isWrapper; first | (rw [if_pos (by decide +kernel)]; kernel_rfl) | (rw [if_neg (by decide +kernel)]; exact ⟨rfl, rfl⟩))
    (fun os started H enc _ => lifted os started H enc)
end Go.Proofs.YtolbmgkoifchfaaDoor.txnBytes
namespace Go.Proofs.YtolbmgkoifchfaaDoor
open Go
/-- THE TIED CARD. -/
theorem txnBytesCard_holds : Rows.TxnBytesCardSaid :=
  Claim7.holds_tied_plain_at .later [] [.data] true (true, "fd8fbdc146e197348215039d84efbceac7a8e5a93ecc298075ea2998154be3c1") false
    txnBytes.over (fun _ h => by cases h) (by kernel_rfl) (fun _ h => by cases h) txnBytes_row_tie rfl ⟨rfl, rfl⟩ (by kernel_rfl) rfl
    (fun f fn hf hfn => by
      obtain rfl : f = 4 := Option.some.inj ((show Tryd.prog.funcNamed "copyist/copyistlaw09.TxnBytes" = some 4 by kernel_rfl).symm.trans hf) |>.symm
      obtain rfl : fn = Tryd.f4 := (Option.some.inj (Tryd.func4.symm.trans hfn)).symm
      exact ⟨by kernel_rfl, fun j t ht => by
        rw [Tryd.params4] at ht
        have h3 : t ∈ [31] := by
          have := Array.mem_of_getElem? ht
          simpa using this
        simp only [List.mem_cons, List.not_mem_nil, or_false] at h3
        rcases h3 with rfl <;> first | exact (show Tryd.prog.wantsStandIn 31 = false by kernel_rfl)⟩)
    (by kernel_rfl)
#print axioms txnBytesCard_holds
end Go.Proofs.YtolbmgkoifchfaaDoor
