/- TxnReads: its row, and its tied card. -/
import Derived.Test.YtolbmgkoifchfaaDoorTie
import Derived.Test.YtolbmgkoifchfaaDoorCards
import Derived.WalkKit
import Derived.ProofKit
import Derived.SizedLaws
import Derived.Handed
import Derived.Lay
import Derived.FnData
import Derived.ChangeSame
import Derived.ChangeArms
import Derived.SevenTiedAt
import Derived.Test.YtolbmgkoifchfaaDoorLX6U5
namespace Go.Proofs.YtolbmgkoifchfaaDoor.txnReads
open Go Go.Lift Go.ChangeShapes Go.WideShapes Go.RowKit
set_option linter.unusedVariables false

theorem own : ownKnob Tryd.prog.godebug = none := by kernel_rfl
theorem laidOut : laidOutB Tryd.prog = true := by kernel_rfl
theorem len2 {α : Type} : ∀ (l : List α), l.length = 2 → ∃ a b, l = [a, b]
  | [a, b], _ => ⟨a, b, rfl⟩
/-- what the condition gives: the variable's cells -/
theorem gok {W : World} (h : laidMetH Tryd.prog Rows.txnReadsRow.laid W) : GOk GT (Rb W) W := by
  have h : laidMet Tryd.prog Rows.txnReadsRow.laid W := h
  obtain ⟨ps, hl, _, hb⟩ := h
  obtain ⟨g, t, cs, fuel, p, q, e1, e2, e3, e4, e5, e6⟩ := hl
  obtain rfl : 0 = g := Option.some.inj ((show Tryd.prog.globalNamed "copyist/ident.root" = some 0 by kernel_rfl).symm.trans e1)
  obtain rfl : 53 = t := Option.some.inj ((show (Tryd.prog.globals[0]?).map (·.type) = some 53 by kernel_rfl).symm.trans e2)
  obtain ⟨y0, y1, n, f1, f2, f3, f4⟩ := trod_struct2 Tryd.underlying53 e4
  obtain ⟨r, g1, rfl, _⟩ := DataW.trod_int Tryd.underlying26 f3
  obtain ⟨m, g2, rfl, _⟩ := DataW.trod_int Tryd.underlying27 f4
  have c1 : Tryd.prog.cellsOf 26 = 1 := by kernel_rfl
  have c2 : Tryd.prog.cellsOf 27 = 1 := by kernel_rfl
  have c3 : Tryd.prog.cellsOf 53 = 2 := by kernel_rfl
  have g1 : List.take (Tryd.prog.cellsOf 26) (List.drop 0 cs.toList) = [Value.int .u16 r] := g1
  have g2 : List.take (Tryd.prog.cellsOf 27) (List.drop 1 cs.toList) = [Value.int .u32 m] := g2
  rw [c1] at g1
  rw [c2] at g2
  rw [c3] at f2
  simp only [Rows.laid_copyist_ident_root, Prod.mk.injEq, DataW.agg.injEq, List.cons.injEq, DataW.lit.injEq, Lit.int.injEq, true_and, and_true] at f1
  obtain ⟨⟨rfl, rfl⟩, _⟩ := f1
  have hcs : cs.toList = [.int .u16 0, .int .u32 0] := by
    obtain ⟨a, b, hab⟩ := len2 _ f2
    rw [hab] at g1 g2 ⊢
    simp at g1 g2
    rw [g1, g2]
  have hz : cs = #[.int .u16 0, .int .u32 0] := by rw [← Array.toList_inj]; exact hcs
  subst hz
  have d0 := World.var?_cell e1 e3 0
  have d1 := World.var?_cell e1 e3 1
  obtain ⟨⟨c, t, hh⟩, _⟩ := hb 0 0 (by rw [e6]; simp [MemPlace.row])
  intro x hx
  have hx : x = (0, [.v (.int .u16 0), .v (.int .u32 0)]) := by simpa [GT] using hx
  subst hx
  refine ⟨lt_of_heap hh, TRm.of_get fun i x hi => ?_⟩
  match i, hi with
  | 0, hi => cases hi; exact ⟨_, by simpa using d0, by simp [TR], rfl⟩
  | 1, hi => cases hi; exact ⟨_, by simpa using d1, by simp [TR], rfl⟩
  | k + 2, hi => simp at hi
theorem called (A : List IV) (h : TyA [⟨false, [.row [.int .u8]]⟩] A) : ∃ A', SCallG GT Tryd.prog 3 A (.v (.bool true)) A' := by
  obtain ⟨x1, B1, rfl, h1, g1⟩ := h.one_inv
  obtain rfl := g1.nil_inv
  obtain ⟨t, rfl, ht⟩ := row_bytes h1
  exact ⟨_, txnReads_call t (by unfold Go.maxLen at ht; omega)⟩
set_option maxRecDepth 100000 in
theorem lifted (os : Os) (started : os.Started) (H : Type) (enc : TypeId × Value → H) :
    ReturnsInHanded {} Tryd.checked os 3 .any (fun w args => (Rows.txnReadsSpec.pre enc Tryd.prog Tryd.f3 [] false w args ∧ laidMetH Tryd.prog Rows.txnReadsRow.laid w) ∧ sizedMet enc Tryd.prog Tryd.f3 (OpenSpec.ofChange Rows.txnReadsSpec) false w args)
      (Rows.txnReadsSpec.post enc Tryd.prog Tryd.f3 false true false false) := by
  refine returnsInHanded_of_change_and (C := Tryd.checked) (X := fun w _ => laidMetH Tryd.prog Rows.txnReadsRow.laid w) (fun _ _ _ hh h => h.of_heap hh) own started (by kernel_rfl) Tryd.func3
    (ChangeSpec.witness_at (enc := enc) (C := Tryd.checked) (os := os) (X := fun w _ => laidMetH Tryd.prog Rows.txnReadsRow.laid w) false (World.laidAll Tryd.prog os Rows.txnReadsRow.laid) #[.slice none 0 0] 8 (World.laidAll_os _ _ _) (by kernel_rfl) (by kernel_rfl) (by kernel_rfl) (by kernel_rfl) (by kernel_rfl)
      (laidMet_laidAll (laid := Rows.txnReadsRow.laid) #[.slice none 0 0] (by kernel_rfl) (by kernel_rfl))) ?_
  intro W base args ds gs before hval hW _ _ hL _
  refine law_contractG (G := GT) (tb := 4) (ps := [⟨false, [.row [.int .u8]]⟩]) laidOut rfl (fun ds h => ?_) rfl Tryd.underlying4 ?_ ?_ called W (gok hL) base args ds gs before hval hW
  · rw [Tryd.params3] at h
    rcases ds with _ | ⟨d0, _ | ⟨d1, ds⟩⟩ <;> first | rfl | (exfalso; simp at h)
  · rw [Tryd.params3]
    intro t ht
    simp only [List.mem_cons, List.not_mem_nil, or_false] at ht
    rcases ht with rfl <;> exact ⟨by kernel_rfl, of_decide_eq_true (by kernel_rfl)⟩
  · rw [Tryd.params3]
    exact (.one Tryd.underlying22 rfl (.slice Tryd.underlying22 (.int Tryd.underlying5) (by kernel_rfl) (by decide)) .nil)
theorem over : Rows.TxnReadsSaid :=
  OpenClaim.holds_of_wide 3 Tryd.f3 rfl rfl rfl rfl rfl rfl rfl ⟨rfl, rfl, rfl, rfl, rfl⟩ rfl rfl rfl rfl rfl (by kernel_rfl) Tryd.func3 (by kernel_rfl)
    (of_decide_eq_true (by kernel_rfl)) (by unfold Func.isWrapper; first | (rw [if_pos (by decide +kernel)]; kernel_rfl) | (rw [if_neg (by decide +kernel)]; exact ⟨rfl, rfl⟩))
    (fun os started H enc _ => lifted os started H enc)
end Go.Proofs.YtolbmgkoifchfaaDoor.txnReads
namespace Go.Proofs.YtolbmgkoifchfaaDoor
open Go
/-- THE TIED CARD. -/
theorem txnReadsCard_holds : Rows.TxnReadsCardSaid :=
  Claim7.holds_tied_plain_at .later [] [.data] true (true, "fd8fbdc146e197348215039d84efbceac7a8e5a93ecc298075ea2998154be3c1") false
    txnReads.over (fun _ h => by cases h) (by kernel_rfl) (fun _ h => by cases h) txnReads_row_tie rfl ⟨rfl, rfl⟩ (by kernel_rfl) rfl
    (fun f fn hf hfn => by
      obtain rfl : f = 3 := Option.some.inj ((show Tryd.prog.funcNamed "copyist/copyistlaw09.TxnReads" = some 3 by kernel_rfl).symm.trans hf) |>.symm
      obtain rfl : fn = Tryd.f3 := (Option.some.inj (Tryd.func3.symm.trans hfn)).symm
      exact ⟨by kernel_rfl, fun j t ht => by
        rw [Tryd.params3] at ht
        have h3 : t = 22 := by
          rcases j with _ | j
          · simpa using ht.symm
          · simp at ht
        subst h3
        exact (show Tryd.prog.wantsStandIn 22 = false by kernel_rfl)⟩)
    (by kernel_rfl)
#print axioms txnReadsCard_holds
end Go.Proofs.YtolbmgkoifchfaaDoor
