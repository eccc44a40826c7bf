/- WireReads: its row, and its tied card. -/
import Derived.Test.YtclhjcbnpdlgbaaGreatDoorTie
import Derived.Test.YtclhjcbnpdlgbaaGreatDoorCards
import Derived.WalkKit
import Derived.ProofKit
import Derived.SizedLaws
import Derived.Handed
import Derived.Lay
import Derived.FnData
import Derived.ChangeSame
import Derived.ChangeArms
import Derived.SevenTiedAt
import Derived.Test.YtclhjcbnpdlgbaaGreatDoorLXCQC
import Derived.Test.YtclhjcbnpdlgbaaGreatDoorLA3
namespace Go.Proofs.YtclhjcbnpdlgbaaGreatDoor.wireReads
open Go Go.Lift Go.ChangeShapes Go.WideShapes Go.RowKit
set_option linter.unusedVariables false

theorem own : ownKnob Tryz.prog.godebug = none := by kernel_rfl
theorem laidOut : laidOutB Tryz.prog = true := by kernel_rfl
theorem len2 {α : Type} : ∀ (l : List α), l.length = 2 → ∃ a b, l = [a, b]
  | [a, b], _ => ⟨a, b, rfl⟩
theorem gok {W : World} (h : laidMetH Tryz.prog Rows.wireReadsRow.laid W) : GOk GT (Rb W) W := by
  have h : laidMet Tryz.prog Rows.wireReadsRow.laid W := h
  obtain ⟨ps, hl, _, hb⟩ := h
  obtain ⟨g, t, cs, fuel, p, q, e1, e2, e3, e4, e5, e6⟩ := hl
  obtain rfl : 0 = g := Option.some.inj ((show Tryz.prog.globalNamed "copyist/ident.root" = some 0 by kernel_rfl).symm.trans e1)
  obtain rfl : 73 = t := Option.some.inj ((show (Tryz.prog.globals[0]?).map (·.type) = some 73 by kernel_rfl).symm.trans e2)
  obtain ⟨y0, y1, n, f1, f2, f3, f4⟩ := trod_struct2 Tryz.underlying73 e4
  obtain ⟨r, g1, rfl, _⟩ := DataW.trod_int Tryz.underlying24 f3
  obtain ⟨m, g2, rfl, _⟩ := DataW.trod_int Tryz.underlying25 f4
  have c1 : Tryz.prog.cellsOf 24 = 1 := by kernel_rfl
  have c2 : Tryz.prog.cellsOf 25 = 1 := by kernel_rfl
  have c3 : Tryz.prog.cellsOf 73 = 2 := by kernel_rfl
  have g1 : List.take (Tryz.prog.cellsOf 24) (List.drop 0 cs.toList) = [Value.int .u16 r] := g1
  have g2 : List.take (Tryz.prog.cellsOf 25) (List.drop 1 cs.toList) = [Value.int .u32 m] := g2
  rw [c1] at g1
  rw [c2] at g2
  rw [c3] at f2
  simp only [Rows.laid_copyist_ident_root, Prod.mk.injEq, DataW.agg.injEq, List.cons.injEq, DataW.lit.injEq, Lit.int.injEq, true_and, and_true] at f1
  obtain ⟨⟨rfl, rfl⟩, _⟩ := f1
  have hcs : cs.toList = [.int .u16 0, .int .u32 0] := by
    obtain ⟨a, b, hab⟩ := len2 _ f2
    rw [hab] at g1 g2 ⊢
    simp at g1 g2
    rw [g1, g2]
  have hz : cs = #[.int .u16 0, .int .u32 0] := by rw [← Array.toList_inj]; exact hcs
  subst hz
  intro x hx
  have hx : x = (0, [.v (.int .u16 0), .v (.int .u32 0)]) := by simpa [GT] using hx
  subst hx
  refine GOk.one e1 e3 rfl fun i x hi => ?_
  match i, hi with
  | 0, hi => cases hi; exact ⟨_, rfl, by simp [TR], rfl⟩
  | 1, hi => cases hi; exact ⟨_, rfl, by simp [TR], rfl⟩
  | k + 2, hi => simp at hi
theorem called (A : List IV) (h : TyA [⟨false, [.row [.int .u8]]⟩] A) (hwt : SzA [[.row 1 [.no]]] A) : ∃ A', SCallG GT Tryz.prog 4 A (.v (.bool true)) A' := by
  obtain ⟨x1, B1, rfl, h1, g1⟩ := h.one_inv
  obtain rfl := g1.nil_inv
  obtain ⟨t, rfl, ht⟩ := row_bytes h1
  exact ⟨_, wireReads_call t (by unfold Go.maxLen at ht; omega)⟩
set_option maxRecDepth 100000 in
theorem lifted (os : Os) (started : os.Started) (H : Type) (enc : TypeId × Value → H) :
    ReturnsInHanded {} Tryz.checked os 4 .any (fun w args => (Rows.wireReadsSpec.pre enc Tryz.prog Tryz.f4 [] false w args ∧ laidMetH Tryz.prog Rows.wireReadsRow.laid w) ∧ sizedMet enc Tryz.prog Tryz.f4 (OpenSpec.ofChange Rows.wireReadsSpec) false w args)
      (Rows.wireReadsSpec.post enc Tryz.prog Tryz.f4 false true false false) := by
  refine returnsInHanded_of_change_and (C := Tryz.checked) (X := fun w _ => laidMetH Tryz.prog Rows.wireReadsRow.laid w) (fun _ _ _ hh h => h.of_heap hh) own started (by kernel_rfl) Tryz.func4
    (ChangeSpec.witness_at (enc := enc) (C := Tryz.checked) (os := os) (X := fun w _ => laidMetH Tryz.prog Rows.wireReadsRow.laid w) false (World.laidAll Tryz.prog os Rows.wireReadsRow.laid) #[.slice none 0 0] 8 (World.laidAll_os _ _ _) (by kernel_rfl) (by kernel_rfl) (by kernel_rfl) (by kernel_rfl) (by kernel_rfl)
      (laidMet_laidAll (laid := Rows.wireReadsRow.laid) #[.slice none 0 0] (by kernel_rfl) (by kernel_rfl))) ?_
  intro W base args ds gs before hval hW _ hsz hL _
  refine law_contractGW (G := GT) (tb := 4) (ps := [⟨false, [.row [.int .u8]]⟩]) (ws := [[.row 1 [.no]]]) laidOut rfl (fun ds h => ?_) rfl Tryz.underlying4 ?_ ?_ ?_ called W (gok hL) base args ds gs before hval hW hsz
  · rw [Tryz.params4] at h
    rcases ds with _ | ⟨d0, _ | ⟨d1, ds⟩⟩ <;> first | rfl | (exfalso; simp at h)
  · rw [Tryz.params4]
    intro t ht
    simp only [List.mem_cons, List.not_mem_nil, or_false] at ht
    rcases ht with rfl <;> exact ⟨by kernel_rfl, of_decide_eq_true (by kernel_rfl)⟩
  · rw [Tryz.params4]
    exact (.one Tryz.underlying42 rfl (.slice Tryz.underlying42 (.int Tryz.underlying5) (by kernel_rfl) (by decide)) .nil)
  · rw [Tryz.params4]
    exact (.cons (.slice Tryz.underlying42 (by kernel_rfl) .one (by kernel_rfl)) .nil)
theorem over : Rows.WireReadsSaid :=
  OpenClaim.holds_of_wide 4 Tryz.f4 rfl rfl rfl rfl rfl rfl rfl ⟨rfl, rfl, rfl, rfl, rfl⟩ rfl rfl rfl rfl rfl (by kernel_rfl) Tryz.func4 (by kernel_rfl)
    (of_decide_eq_true (by kernel_rfl)) (by unfold Func.isWrapper; first | (rw [if_pos (by decide +kernel)]; kernel_rfl) | (rw [if_neg (by decide +kernel)]; exact ⟨rfl, rfl⟩))
    (fun os started H enc _ => lifted os started H enc)
end Go.Proofs.YtclhjcbnpdlgbaaGreatDoor.wireReads
namespace Go.Proofs.YtclhjcbnpdlgbaaGreatDoor
open Go
set_option maxRecDepth 100000 in
theorem wireReadsCard_holds : Rows.WireReadsCardSaid :=
  Claim7.holds_tied_plain_at .later [] [.data] true (true, "003eb8893df8a691bd1ffb9978fe5d26ddf67d21a19b756d79b6cc3443ab6641") false
    wireReads.over (fun _ h => by cases h) (by kernel_rfl) (fun _ h => by cases h) wireReads_row_tie rfl ⟨rfl, rfl⟩ (by kernel_rfl) rfl
    (fun f fn hf hfn => by
      obtain rfl : f = 4 := Option.some.inj ((show Tryz.prog.funcNamed "copyist/copyistlaw10.WireReads" = some 4 by kernel_rfl).symm.trans hf) |>.symm
      obtain rfl : fn = Tryz.f4 := (Option.some.inj (Tryz.func4.symm.trans hfn)).symm
      exact ⟨by kernel_rfl, fun j t ht => by
        rw [Tryz.params4] at ht
        have h3 : t ∈ [42] := by
          have := Array.mem_of_getElem? ht
          simpa using this
        simp only [List.mem_cons, List.not_mem_nil, or_false] at h3
        rcases h3 with rfl <;> first | exact (show Tryz.prog.wantsStandIn 42 = false by kernel_rfl)⟩)
    (by kernel_rfl)
#print axioms wireReadsCard_holds
end Go.Proofs.YtclhjcbnpdlgbaaGreatDoor
