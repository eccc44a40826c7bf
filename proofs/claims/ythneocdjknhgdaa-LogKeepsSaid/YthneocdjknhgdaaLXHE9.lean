import Derived.RangeFuncNested
import Derived.RangeFuncLeaves
import Derived.RangeFuncCalls
import Derived.WalkKit
import Derived.OwnWalkIn
import Derived.TacticsInMore
import Derived.LoopNIn
import Derived.LoopIn
import Derived.Test.YthneocdjknhgdaaLXHSC
import Derived.Test.YthneocdjknhgdaaLA3
import Derived.Test.YthneocdjknhgdaaLXHS8
set_option linter.unusedVariables false
set_option linter.unusedSimpArgs false
/- slices.Sort at uint32: pdqsort. -/
namespace Go.Proofs.Ythneocdjknhgdaa.Su
open Go Go.Lift Go.Sort
set_option maxHeartbeats 8000000
set_option linter.unusedSimpArgs false
set_option linter.unusedVariables false
attribute [local irreducible] WK IL IP IG IW DW

theorem hintI_2 (h : Hint) : (hintI h == 2) = decide (h = .decreasing) := by cases h <;> rfl
theorem hintI_1 (h : Hint) : (hintI h == 1) = decide (h = .increasing) := by cases h <;> rfl
theorem pdq_size (n : Nat) (hsz : n < 256) : ∀ (M a b lim : Nat) (wb wp : Bool) (d : Array Int), b - a < M → a ≤ b → b ≤ n → d.size = n → (pdq ltInt d a b lim wb wp).size = n
  | 0, a, b, lim, wb, wp, d, hM, hab, hbn, hd => by omega
  | M + 1, a, b, lim, wb, wp, d, hM, hab, hbn, hd => by
    rw [pdq_unfold]
    split
    · rw [insertionSort, ins_size _ _ _ _ _ (Nat.le_refl _)]; exact hd
    · rename_i h12
      split
      · rw [heapSort_size]; exact hd
      · have h1 : (rd ltInt d a b lim wb wp).d1.size = n := by
          show (if (!wb) = true then breakPatterns d a b else d).size = n
          split
          · rw [brk_size _ _ _ (by omega)]; exact hd
          · exact hd
        have h2 : (rd ltInt d a b lim wb wp).d2.size = n := by
          show (if (rd ltInt d a b lim wb wp).c.2 = .decreasing then reverseRange (rd ltInt d a b lim wb wp).d1 a b else (rd ltInt d a b lim wb wp).d1).size = n
          split
          · rw [rev_size]; exact h1
          · exact h1
        have h3 : (rd ltInt d a b lim wb wp).pi.1.size = n := by
          show (if (wb && wp && decide ((rd ltInt d a b lim wb wp).hint = .increasing)) = true then partialInsertionSort ltInt (rd ltInt d a b lim wb wp).d2 a b else ((rd ltInt d a b lim wb wp).d2, false)).1.size = n
          split
          · rw [partial_size]; exact h2
          · exact h2
        generalize rd ltInt d a b lim wb wp = R at *
        have pe := partitionEqual_bd R.pi.1 a b R.pivot (by omega)
        have pt := partition_bd R.pi.1 a b R.pivot (by omega)
        generalize partitionEqual ltInt R.pi.1 a b R.pivot = e at *
        generalize partition ltInt R.pi.1 a b R.pivot = t at *
        split
        · exact h3
        · split
          · split
            · exact pdq_size n hsz M _ _ _ _ _ _ (by omega) (by omega) (by omega) (by omega)
            · omega
          · split
            · split
              · exact pdq_size n hsz M _ _ _ _ _ _ (by omega) (by omega) (by omega) (pdq_size n hsz M _ _ _ _ _ _ (by omega) (by omega) (by omega) (by omega))
              · exact pdq_size n hsz M _ _ _ _ _ _ (by omega) (by omega) (by omega) (pdq_size n hsz M _ _ _ _ _ _ (by omega) (by omega) (by omega) (by omega))
            · omega
set_option maxRecDepth 10000 in
theorem pdq_call (n : Nat) (hsz : n < 256) (hn0 : 0 < n) : ∀ (M : Nat) (d : Array Int) (a b lim : Nat), b - a < M → d.size = n → a ≤ b → b ≤ n → lim ≤ 1000 →
    SCall Try.prog 16 [uO n d, ii a, ii b, ii lim] (.tup []) [uO n (pdq ltInt d a b lim true true), ii a, ii b, ii lim]
  | 0, d, a, b, lim, hM, hn, hab, hbn, hlim => by omega
  | M + 1, d, a, b, lim, hM, hn, hab, hbn, hlim => by
    have IH := pdq_call n hsz hn0 M
    generalize hr : pdq ltInt d a b lim true true = r
    refine SCall.of_body' (TT := TT) (fun k => decide (k < 1)) [false, false, false, false] ttok Try.func16 rfl (Nat.le_of_ble_eq_true rfl) rfl fun fx hfx => WK.top ?_
    simp only [impl, imp, argT, List.append_nil, List.map_nil, List.map_cons, List.nil_append, List.cons_append, List.length_cons, List.length_nil, show Try.f16.ntmps = 134 from rfl, Nat.zero_add, Nat.reduceAdd]
    repeat' (first | refine WK.seq ?_ | refine WK.reg ?_ | refine IL.nil ?_ | refine WK.skip ?_ | refine WK.block ?_ | refine WK.exit_here ?_ | refine WK.e1 ?_ | refine WK.e2 ?_ | refine WK.drawnS (id := 17) mixed [0] [12] [0, 0, 0, 0, 0, 0, 0, 0, 0, 0, 0, 0, 0, 1, 1] [0, 0, 0, 0, 0, 0, 0, 0, 0, 0, 0, 0, 0, 1, 1] (by decide +kernel) ?_ | refine DW.nil ?_ | (with_reducible refine IL.wr ?_ ?_; focus exact cW) | (with_reducible refine DW.wr ?_ ?_; focus exact cW) | refine IL.sg ttok ?_ | refine IL.nn ?_ | refine DW.re ttok ?_ | refine DW.rm ttok ?_ | refine DW.nn ?_ | refine DW.nb ?_ | refine IL.cS ttok ent16 [.own, .bor, .bor, .bor] false ?_ (hS := by exact hrec) | refine IL.cS ttok ent18 [.own, .bor, .bor] false ?_ (hS := by exact hins) | refine IL.cS ttok ent19 [.own, .bor, .bor] false ?_ (hS := by exact hhp) | refine IL.cS ttok ent20 [.own, .bor, .bor] false ?_ (hS := by exact hbk) | refine IL.cS ttok ent21 [.bor, .bor, .bor] true ?_ (hS := by exact hpv) | refine IL.cS ttok ent22 [.own, .bor, .bor] false ?_ (hS := by exact hrv) | refine IL.cS ttok ent23 [.own, .bor, .bor] false ?_ (hS := by exact hpi) | refine DW.cS ttok ent24 [.bor, .bor] true ?_ (hS := by exact less_call _ _) | refine IL.cS ttok ent25 [.own, .bor, .bor, .bor] false ?_ (hS := by exact hpe) | refine IL.cS ttok ent26 [.own, .bor, .bor, .bor] false ?_ (hS := by exact hpt) | ((first | ((first | refine IL.ag (fun h => ?_) (fun h => ?_) | refine DW.ag (fun h => ?_) (fun h => ?_) | refine IL.ap (fun h => ?_) (fun h => ?_) | refine DW.ap (fun h => ?_) (fun h => ?_)); (fail_if_success (focus (simp only [reduceCtorEq] at h)))) | refine WK.cn (fun h => ?_) (fun h => ?_)); all_goals first | (simp only [reduceCtorEq] at h; done) | (simp only [hsA, hsD, hsE, ne_eq] at h; first | done | (exfalso; omega; done) | skip) | skip))
    refine WK.whileS (α := Nat × Nat × Nat × Bool × Bool × Array Int) (fun x => x.2.1 - x.1) (fun x => x.1 ≤ x.2.1 ∧ x.2.1 ≤ n ∧ x.2.1 - x.1 < M + 1 ∧ x.2.2.1 ≤ 1000 ∧ x.2.2.2.2.2.size = n ∧ pdq ltInt x.2.2.2.2.2 x.1 x.2.1 x.2.2.1 x.2.2.2.1 x.2.2.2.2.1 = r) (fun x => ⟨134, [(0, .sl 0 0 0 n), (1, ii x.1), (2, ii x.2.1), (3, ii x.2.2.1), (8, .v (.bool x.2.2.2.1)), (9, .v (.bool x.2.2.2.2.1))], [some ⟨true, 24, n, true, rwC x.2.2.2.2.2, 0, false⟩]⟩) (a, b, lim, true, true, d) ⟨⟨hab, hbn, hM, hlim, hn, hr⟩, ?_⟩ ?_
    · (refine Weak.renP 1 [0] hfx (fun k h => of_decide_eq_true h) (fun k hk => by obtain rfl : k = 0 := (by omega); exact ⟨rfl, _, rfl, rfl⟩) rfl ?_ ?_ rfl <;> (simp only [go_sem, reduceIte, exists_eq_left', exists_eq_left, Blk.mk.injEq] <;> (try and_intros) <;> first | rfl | omega))
    · clear hr hlim hbn hab hM hn
      rintro ⟨a, b, lim, wb, wp, d⟩ ⟨h1, h2, h5, h6, h3, h4⟩
      simp only at h1 h2 h3 h4 h5 h6
      have hL : (b : Int) - (a : Int) = ((b - a : Nat) : Int) := by omega
      by_cases s12 : b - a ≤ 12
      · rw [pdq_small s12] at h4
        subst h4
        have g12 : decide (((b - a : Nat) : Int) ≤ 12) = true := decide_eq_true (by omega)
        have hins := ins_call d n a b h3 (by omega) h2 (by omega)
        generalize insertionSort ltInt d a b = d' at *
        generalize b - a = L at *
        have FX := And.intro hL (And.intro g12 hn0)
        repeat' (first | refine WK.seq ?_ | refine WK.reg ?_ | refine IL.nil ?_ | refine WK.skip ?_ | refine WK.block ?_ | refine WK.exit_here ?_ | refine WK.e1 ?_ | refine WK.e2 ?_ | refine WK.drawnS (id := 17) mixed [0] [12] [0, 0, 0, 0, 0, 0, 0, 0, 0, 0, 0, 0, 0, 1, 1] [0, 0, 0, 0, 0, 0, 0, 0, 0, 0, 0, 0, 0, 1, 1] (by decide +kernel) ?_ | refine DW.nil ?_ | (with_reducible refine IL.wr ?_ ?_; focus exact cW) | (with_reducible refine DW.wr ?_ ?_; focus exact cW) | refine IL.sgF ttok ?_ | refine IL.nn ?_ | refine DW.reF ttok ?_ | refine DW.rmF ttok ?_ | refine DW.nn ?_ | refine DW.nb ?_ | refine IL.cSF ttok ent16 [.own, .bor, .bor, .bor] false ?_ (hS := by exact hrec) | refine IL.cSF ttok ent18 [.own, .bor, .bor] false ?_ (hS := by exact hins) | refine IL.cSF ttok ent19 [.own, .bor, .bor] false ?_ (hS := by exact hhp) | refine IL.cSF ttok ent20 [.own, .bor, .bor] false ?_ (hS := by exact hbk) | refine IL.cSF ttok ent21 [.bor, .bor, .bor] true ?_ (hS := by exact hpv) | refine IL.cSF ttok ent22 [.own, .bor, .bor] false ?_ (hS := by exact hrv) | refine IL.cSF ttok ent23 [.own, .bor, .bor] false ?_ (hS := by exact hpi) | refine DW.cSF ttok ent24 [.bor, .bor] true ?_ (hS := by exact less_call _ _) | refine IL.cSF ttok ent25 [.own, .bor, .bor, .bor] false ?_ (hS := by exact hpe) | refine IL.cSF ttok ent26 [.own, .bor, .bor, .bor] false ?_ (hS := by exact hpt) | ((first | ((first | refine IL.ag (fun h => ?_) (fun h => ?_) | refine DW.ag (fun h => ?_) (fun h => ?_) | refine IL.ap (fun h => ?_) (fun h => ?_) | refine DW.ap (fun h => ?_) (fun h => ?_)); (fail_if_success (focus (simp only [reduceCtorEq] at h)))) | refine WK.cn (fun h => ?_) (fun h => ?_)); all_goals first | (simp only [reduceCtorEq] at h; done) | (simp only [hsA, hsD, hsE, ne_eq] at h; first | done | (exfalso; omega; done) | skip) | skip))
        all_goals try ((first | refine WK.ret ⟨.inr rfl, ?_⟩ | refine ⟨.inl rfl, ?_⟩ | refine ⟨.inl trivial, ?_⟩); refine Fin.o ?_ ?_ (h1 := by first | rfl | (simp only [go_sem, show Try.f16.results.toList = [] from rfl, reduceIte] <;> rfl)); rotate_left 1; (focus (first | rfl | skip)); all_goals try with_reducible rfl)
        all_goals skip
      · have g12 : decide (((b - a : Nat) : Int) ≤ 12) = false := decide_eq_false (by omega)
        by_cases z : lim = 0
        · subst z
          rw [pdq_heap s12 rfl] at h4
          subst h4
          have g0 : (((0 : Nat) : Int) == 0) = true := rfl
          have hhp := heap_call d n a b h3 (by omega) h2 (by omega)
          generalize heapSort ltInt d a b = d' at *
          generalize b - a = L at *
          have FX := And.intro hL (And.intro g12 (And.intro g0 hn0))
          repeat' (first | refine WK.seq ?_ | refine WK.reg ?_ | refine IL.nil ?_ | refine WK.skip ?_ | refine WK.block ?_ | refine WK.exit_here ?_ | refine WK.e1 ?_ | refine WK.e2 ?_ | refine WK.drawnS (id := 17) mixed [0] [12] [0, 0, 0, 0, 0, 0, 0, 0, 0, 0, 0, 0, 0, 1, 1] [0, 0, 0, 0, 0, 0, 0, 0, 0, 0, 0, 0, 0, 1, 1] (by decide +kernel) ?_ | refine DW.nil ?_ | (with_reducible refine IL.wr ?_ ?_; focus exact cW) | (with_reducible refine DW.wr ?_ ?_; focus exact cW) | refine IL.sgF ttok ?_ | refine IL.nn ?_ | refine DW.reF ttok ?_ | refine DW.rmF ttok ?_ | refine DW.nn ?_ | refine DW.nb ?_ | refine IL.cSF ttok ent16 [.own, .bor, .bor, .bor] false ?_ (hS := by exact hrec) | refine IL.cSF ttok ent18 [.own, .bor, .bor] false ?_ (hS := by exact hins) | refine IL.cSF ttok ent19 [.own, .bor, .bor] false ?_ (hS := by exact hhp) | refine IL.cSF ttok ent20 [.own, .bor, .bor] false ?_ (hS := by exact hbk) | refine IL.cSF ttok ent21 [.bor, .bor, .bor] true ?_ (hS := by exact hpv) | refine IL.cSF ttok ent22 [.own, .bor, .bor] false ?_ (hS := by exact hrv) | refine IL.cSF ttok ent23 [.own, .bor, .bor] false ?_ (hS := by exact hpi) | refine DW.cSF ttok ent24 [.bor, .bor] true ?_ (hS := by exact less_call _ _) | refine IL.cSF ttok ent25 [.own, .bor, .bor, .bor] false ?_ (hS := by exact hpe) | refine IL.cSF ttok ent26 [.own, .bor, .bor, .bor] false ?_ (hS := by exact hpt) | ((first | ((first | refine IL.ag (fun h => ?_) (fun h => ?_) | refine DW.ag (fun h => ?_) (fun h => ?_) | refine IL.ap (fun h => ?_) (fun h => ?_) | refine DW.ap (fun h => ?_) (fun h => ?_)); (fail_if_success (focus (simp only [reduceCtorEq] at h)))) | refine WK.cn (fun h => ?_) (fun h => ?_)); all_goals first | (simp only [reduceCtorEq] at h; done) | (simp only [hsA, hsD, hsE, ne_eq] at h; first | done | (exfalso; omega; done) | skip) | skip))
          all_goals try ((first | refine WK.ret ⟨.inr rfl, ?_⟩ | refine ⟨.inl rfl, ?_⟩ | refine ⟨.inl trivial, ?_⟩); refine Fin.o ?_ ?_ (h1 := by first | rfl | (simp only [go_sem, show Try.f16.results.toList = [] from rfl, reduceIte] <;> rfl)); rotate_left 1; (focus (first | rfl | skip)); all_goals try with_reducible rfl)
          all_goals skip
        · have g0 : ((lim : Int) == 0) = false := beq_eq_false_iff_ne.2 (by omega)
          have hdone := pdq_done (lt := ltInt) (d := d) (wb := wb) (wp := wp) s12 z
          have heq := pdq_eq (lt := ltInt) (d := d) (wb := wb) (wp := wp) s12 z
          have hlf := pdq_left (lt := ltInt) (d := d) (wb := wb) (wp := wp) s12 z
          have hrt := pdq_right (lt := ltInt) (d := d) (wb := wb) (wp := wp) s12 z
          rw [h4] at hdone heq hlf hrt
          generalize hR : rd ltInt d a b lim wb wp = R at *
          have f1 : R.d1 = if (!wb) = true then breakPatterns d a b else d := by rw [← hR]; rfl
          have f2 : R.lim = if (!wb) = true then lim - 1 else lim := by rw [← hR]; rfl
          have f3 : R.c = choosePivot ltInt R.d1 a b := by rw [← hR]; rfl
          have f4 : R.d2 = if R.c.2 = .decreasing then reverseRange R.d1 a b else R.d1 := by rw [← hR]; rfl
          have f5 : R.pivot = if R.c.2 = .decreasing then (b - 1) - (R.c.1 - a) else R.c.1 := by rw [← hR]; rfl
          have f6 : R.hint = if R.c.2 = .decreasing then Hint.increasing else R.c.2 := by rw [← hR]; rfl
          have f7 : R.pi = if (wb && wp && decide (R.hint = .increasing)) = true then partialInsertionSort ltInt R.d2 a b else (R.d2, false) := by rw [← hR]; rfl
          clear hR
          obtain ⟨d1, lim1, ⟨c1, ch⟩, d2, pv, hint, ⟨d3, dn⟩⟩ := R
          simp only at f1 f2 f3 f4 f5 f6 f7 hdone heq hlf hrt
          have n1 : d1.size = n := by
            rw [f1]; split
            · rw [brk_size _ _ _ (by omega)]; exact h3
            · exact h3
          have n2 : d2.size = n := by
            rw [f4]; split
            · rw [rev_size]; exact n1
            · exact n1
          have n3 : d3.size = n := by
            have : d3 = (d3, dn).1 := rfl
            rw [this, f7]; split
            · rw [partial_size]; exact n2
            · exact n2
          have hcb := choosePivot_holds ltInt d1 a b (by omega)
          have hpv := pivot_call d1 n a b n1 (by omega) h2 (by omega)
          rw [← f3] at hcb hpv
          simp only at hcb hpv
          have pvb : a ≤ pv ∧ pv < b := by rw [f5]; split <;> omega
          have hl1 : lim1 ≤ 1000 := by rw [f2]; split <;> omega
          have FX := And.intro hL (And.intro g12 g0)
          repeat' (first | refine WK.seq ?_ | refine WK.reg ?_ | refine IL.nil ?_ | refine WK.skip ?_ | refine WK.block ?_ | refine WK.exit_here ?_ | refine WK.e1 ?_ | refine WK.e2 ?_ | refine WK.drawnS (id := 17) mixed [0] [12] [0, 0, 0, 0, 0, 0, 0, 0, 0, 0, 0, 0, 0, 1, 1] [0, 0, 0, 0, 0, 0, 0, 0, 0, 0, 0, 0, 0, 1, 1] (by decide +kernel) ?_ | refine DW.nil ?_ | (with_reducible refine IL.wr ?_ ?_; focus exact cW) | (with_reducible refine DW.wr ?_ ?_; focus exact cW) | refine IL.sgF ttok ?_ | refine IL.nn ?_ | refine DW.reF ttok ?_ | refine DW.rmF ttok ?_ | refine DW.nn ?_ | refine DW.nb ?_ | refine IL.cSF ttok ent16 [.own, .bor, .bor, .bor] false ?_ (hS := by exact hrec) | refine IL.cSF ttok ent18 [.own, .bor, .bor] false ?_ (hS := by exact hins) | refine IL.cSF ttok ent19 [.own, .bor, .bor] false ?_ (hS := by exact hhp) | refine IL.cSF ttok ent20 [.own, .bor, .bor] false ?_ (hS := by exact hbk) | refine IL.cSF ttok ent21 [.bor, .bor, .bor] true ?_ (hS := by exact hpv) | refine IL.cSF ttok ent22 [.own, .bor, .bor] false ?_ (hS := by exact hrv) | refine IL.cSF ttok ent23 [.own, .bor, .bor] false ?_ (hS := by exact hpi) | refine DW.cSF ttok ent24 [.bor, .bor] true ?_ (hS := by exact less_call _ _) | refine IL.cSF ttok ent25 [.own, .bor, .bor, .bor] false ?_ (hS := by exact hpe) | refine IL.cSF ttok ent26 [.own, .bor, .bor, .bor] false ?_ (hS := by exact hpt) | (((first | refine IL.ag (fun h => ?_) (fun h => ?_) | refine DW.ag (fun h => ?_) (fun h => ?_) | refine IL.ap (fun h => ?_) (fun h => ?_) | refine DW.ap (fun h => ?_) (fun h => ?_)); (fail_if_success (focus (simp only [reduceCtorEq] at h)))); all_goals first | (simp only [reduceCtorEq] at h; done) | (simp only [hsA, hsD, hsE, ne_eq] at h; first | done | (exfalso; omega; done) | skip) | skip))
          refine WK.cond (b := false) rfl (fun h => by cases h) (fun _ => ?_)
          have FX := And.intro hL (And.intro g12 g0)
          repeat' (first | refine WK.seq ?_ | refine WK.reg ?_ | refine IL.nil ?_ | refine WK.skip ?_ | refine WK.block ?_ | refine WK.exit_here ?_ | refine WK.e1 ?_ | refine WK.e2 ?_ | refine WK.drawnS (id := 17) mixed [0] [12] [0, 0, 0, 0, 0, 0, 0, 0, 0, 0, 0, 0, 0, 1, 1] [0, 0, 0, 0, 0, 0, 0, 0, 0, 0, 0, 0, 0, 1, 1] (by decide +kernel) ?_ | refine DW.nil ?_ | (with_reducible refine IL.wr ?_ ?_; focus exact cW) | (with_reducible refine DW.wr ?_ ?_; focus exact cW) | refine IL.sgF ttok ?_ | refine IL.nn ?_ | refine DW.reF ttok ?_ | refine DW.rmF ttok ?_ | refine DW.nn ?_ | refine DW.nb ?_ | refine IL.cSF ttok ent16 [.own, .bor, .bor, .bor] false ?_ (hS := by exact hrec) | refine IL.cSF ttok ent18 [.own, .bor, .bor] false ?_ (hS := by exact hins) | refine IL.cSF ttok ent19 [.own, .bor, .bor] false ?_ (hS := by exact hhp) | refine IL.cSF ttok ent20 [.own, .bor, .bor] false ?_ (hS := by exact hbk) | refine IL.cSF ttok ent21 [.bor, .bor, .bor] true ?_ (hS := by exact hpv) | refine IL.cSF ttok ent22 [.own, .bor, .bor] false ?_ (hS := by exact hrv) | refine IL.cSF ttok ent23 [.own, .bor, .bor] false ?_ (hS := by exact hpi) | refine DW.cSF ttok ent24 [.bor, .bor] true ?_ (hS := by exact less_call _ _) | refine IL.cSF ttok ent25 [.own, .bor, .bor, .bor] false ?_ (hS := by exact hpe) | refine IL.cSF ttok ent26 [.own, .bor, .bor, .bor] false ?_ (hS := by exact hpt) | (((first | refine IL.ag (fun h => ?_) (fun h => ?_) | refine DW.ag (fun h => ?_) (fun h => ?_) | refine IL.ap (fun h => ?_) (fun h => ?_) | refine DW.ap (fun h => ?_) (fun h => ?_)); (fail_if_success (focus (simp only [reduceCtorEq] at h)))); all_goals first | (simp only [reduceCtorEq] at h; done) | (simp only [hsA, hsD, hsE, ne_eq] at h; first | done | (exfalso; omega; done) | skip) | skip))
          refine WK.cond (b := false) rfl (fun h => by cases h) (fun _ => ?_)
          have FX := And.intro hL (And.intro g12 g0)
          repeat' (first | refine WK.seq ?_ | refine WK.reg ?_ | refine IL.nil ?_ | refine WK.skip ?_ | refine WK.block ?_ | refine WK.exit_here ?_ | refine WK.e1 ?_ | refine WK.e2 ?_ | refine WK.drawnS (id := 17) mixed [0] [12] [0, 0, 0, 0, 0, 0, 0, 0, 0, 0, 0, 0, 0, 1, 1] [0, 0, 0, 0, 0, 0, 0, 0, 0, 0, 0, 0, 0, 1, 1] (by decide +kernel) ?_ | refine DW.nil ?_ | (with_reducible refine IL.wr ?_ ?_; focus exact cW) | (with_reducible refine DW.wr ?_ ?_; focus exact cW) | refine IL.sgF ttok ?_ | refine IL.nn ?_ | refine DW.reF ttok ?_ | refine DW.rmF ttok ?_ | refine DW.nn ?_ | refine DW.nb ?_ | refine IL.cSF ttok ent16 [.own, .bor, .bor, .bor] false ?_ (hS := by exact hrec) | refine IL.cSF ttok ent18 [.own, .bor, .bor] false ?_ (hS := by exact hins) | refine IL.cSF ttok ent19 [.own, .bor, .bor] false ?_ (hS := by exact hhp) | refine IL.cSF ttok ent20 [.own, .bor, .bor] false ?_ (hS := by exact hbk) | refine IL.cSF ttok ent21 [.bor, .bor, .bor] true ?_ (hS := by exact hpv) | refine IL.cSF ttok ent22 [.own, .bor, .bor] false ?_ (hS := by exact hrv) | refine IL.cSF ttok ent23 [.own, .bor, .bor] false ?_ (hS := by exact hpi) | refine DW.cSF ttok ent24 [.bor, .bor] true ?_ (hS := by exact less_call _ _) | refine IL.cSF ttok ent25 [.own, .bor, .bor, .bor] false ?_ (hS := by exact hpe) | refine IL.cSF ttok ent26 [.own, .bor, .bor, .bor] false ?_ (hS := by exact hpt) | (((first | refine IL.ag (fun h => ?_) (fun h => ?_) | refine DW.ag (fun h => ?_) (fun h => ?_) | refine IL.ap (fun h => ?_) (fun h => ?_) | refine DW.ap (fun h => ?_) (fun h => ?_)); (fail_if_success (focus (simp only [reduceCtorEq] at h)))); all_goals first | (simp only [reduceCtorEq] at h; done) | (simp only [hsA, hsD, hsE, ne_eq] at h; first | done | (exfalso; omega; done) | skip) | skip))
          refine WK.join ⟨134, [(0, .sl 0 0 0 n), (1, ii a), (2, ii b), (3, ii lim1), (8, .v (.bool wb)), (9, .v (.bool wp)), (10, ii (b - a : Nat))], [some ⟨true, 24, n, true, rwC d1, 0, false⟩]⟩ ?_ ?_
          · refine WK.cond (b := !wb) rfl (fun h => ?_) (fun h => ?_)
            · obtain rfl : wb = false := by simpa using h
              have hbk := brk_call d n a b h3 (by omega) h2 hsz
              rw [if_pos (show (!false) = true from rfl)] at f1 f2
              rw [← f1] at hbk
              have hlm : (lim : Int) - 1 = (lim1 : Int) := by omega
              have FX := And.intro hn0 hlm
              repeat' (first | refine WK.seq ?_ | refine WK.reg ?_ | refine IL.nil ?_ | refine WK.skip ?_ | refine WK.block ?_ | refine WK.exit_here ?_ | refine WK.e1 ?_ | refine WK.e2 ?_ | refine WK.drawnS (id := 17) mixed [0] [12] [0, 0, 0, 0, 0, 0, 0, 0, 0, 0, 0, 0, 0, 1, 1] [0, 0, 0, 0, 0, 0, 0, 0, 0, 0, 0, 0, 0, 1, 1] (by decide +kernel) ?_ | refine DW.nil ?_ | (with_reducible refine IL.wr ?_ ?_; focus exact cW) | (with_reducible refine DW.wr ?_ ?_; focus exact cW) | refine IL.sgF ttok ?_ | refine IL.nn ?_ | refine DW.reF ttok ?_ | refine DW.rmF ttok ?_ | refine DW.nn ?_ | refine DW.nb ?_ | refine IL.cSF ttok ent16 [.own, .bor, .bor, .bor] false ?_ (hS := by exact hrec) | refine IL.cSF ttok ent18 [.own, .bor, .bor] false ?_ (hS := by exact hins) | refine IL.cSF ttok ent19 [.own, .bor, .bor] false ?_ (hS := by exact hhp) | refine IL.cSF ttok ent20 [.own, .bor, .bor] false ?_ (hS := by exact hbk) | refine IL.cSF ttok ent21 [.bor, .bor, .bor] true ?_ (hS := by exact hpv) | refine IL.cSF ttok ent22 [.own, .bor, .bor] false ?_ (hS := by exact hrv) | refine IL.cSF ttok ent23 [.own, .bor, .bor] false ?_ (hS := by exact hpi) | refine DW.cSF ttok ent24 [.bor, .bor] true ?_ (hS := by exact less_call _ _) | refine IL.cSF ttok ent25 [.own, .bor, .bor, .bor] false ?_ (hS := by exact hpe) | refine IL.cSF ttok ent26 [.own, .bor, .bor, .bor] false ?_ (hS := by exact hpt) | ((first | ((first | refine IL.ag (fun h => ?_) (fun h => ?_) | refine DW.ag (fun h => ?_) (fun h => ?_) | refine IL.ap (fun h => ?_) (fun h => ?_) | refine DW.ap (fun h => ?_) (fun h => ?_)); (fail_if_success (focus (simp only [reduceCtorEq] at h)))) | refine WK.cn (fun h => ?_) (fun h => ?_)); all_goals first | (simp only [reduceCtorEq] at h; done) | (simp only [hsA, hsD, hsE, ne_eq] at h; first | done | (exfalso; omega; done) | skip) | skip))
              (refine Weak.renP 1 [0] hfx (fun k h => of_decide_eq_true h) (fun k hk => by obtain rfl : k = 0 := (by omega); exact ⟨rfl, _, rfl, rfl⟩) rfl ?_ ?_ rfl <;> (simp only [go_sem, reduceIte, exists_eq_left', exists_eq_left, Blk.mk.injEq, hlm, hL] <;> (try and_intros) <;> first | rfl | omega))
            · obtain rfl : wb = true := by simpa using h
              rw [if_neg (by decide)] at f1 f2
              subst f1
              subst f2
              repeat' (first | refine WK.seq ?_ | refine WK.reg ?_ | refine IL.nil ?_ | refine WK.skip ?_ | refine WK.block ?_ | refine WK.exit_here ?_ | refine WK.e1 ?_ | refine WK.e2 ?_ | refine WK.drawnS (id := 17) mixed [0] [12] [0, 0, 0, 0, 0, 0, 0, 0, 0, 0, 0, 0, 0, 1, 1] [0, 0, 0, 0, 0, 0, 0, 0, 0, 0, 0, 0, 0, 1, 1] (by decide +kernel) ?_ | refine DW.nil ?_ | (with_reducible refine IL.wr ?_ ?_; focus exact cW) | (with_reducible refine DW.wr ?_ ?_; focus exact cW) | refine IL.sg ttok ?_ | refine IL.nn ?_ | refine DW.re ttok ?_ | refine DW.rm ttok ?_ | refine DW.nn ?_ | refine DW.nb ?_ | refine IL.cS ttok ent16 [.own, .bor, .bor, .bor] false ?_ (hS := by exact hrec) | refine IL.cS ttok ent18 [.own, .bor, .bor] false ?_ (hS := by exact hins) | refine IL.cS ttok ent19 [.own, .bor, .bor] false ?_ (hS := by exact hhp) | refine IL.cS ttok ent20 [.own, .bor, .bor] false ?_ (hS := by exact hbk) | refine IL.cS ttok ent21 [.bor, .bor, .bor] true ?_ (hS := by exact hpv) | refine IL.cS ttok ent22 [.own, .bor, .bor] false ?_ (hS := by exact hrv) | refine IL.cS ttok ent23 [.own, .bor, .bor] false ?_ (hS := by exact hpi) | refine DW.cS ttok ent24 [.bor, .bor] true ?_ (hS := by exact less_call _ _) | refine IL.cS ttok ent25 [.own, .bor, .bor, .bor] false ?_ (hS := by exact hpe) | refine IL.cS ttok ent26 [.own, .bor, .bor, .bor] false ?_ (hS := by exact hpt) | ((first | ((first | refine IL.ag (fun h => ?_) (fun h => ?_) | refine DW.ag (fun h => ?_) (fun h => ?_) | refine IL.ap (fun h => ?_) (fun h => ?_) | refine DW.ap (fun h => ?_) (fun h => ?_)); (fail_if_success (focus (simp only [reduceCtorEq] at h)))) | refine WK.cn (fun h => ?_) (fun h => ?_)); all_goals first | (simp only [reduceCtorEq] at h; done) | (simp only [hsA, hsD, hsE, ne_eq] at h; first | done | (exfalso; omega; done) | skip) | skip))
              (refine Weak.renP 1 [0] hfx (fun k h => of_decide_eq_true h) (fun k hk => by obtain rfl : k = 0 := (by omega); exact ⟨rfl, _, rfl, rfl⟩) rfl ?_ ?_ rfl <;> (simp only [go_sem, reduceIte, exists_eq_left', exists_eq_left, Blk.mk.injEq, hL] <;> (try and_intros) <;> first | rfl | omega))
          · have htk : (rwC d1).take n = rwC d1 := List.take_of_length_le (by rw [rwC_len]; omega)
            have FX := And.intro hn0 htk
            repeat' (first | refine WK.seq ?_ | refine WK.reg ?_ | refine IL.nil ?_ | refine WK.skip ?_ | refine WK.block ?_ | refine WK.exit_here ?_ | refine WK.e1 ?_ | refine WK.e2 ?_ | refine WK.drawnS (id := 17) mixed [0] [12] [0, 0, 0, 0, 0, 0, 0, 0, 0, 0, 0, 0, 0, 1, 1] [0, 0, 0, 0, 0, 0, 0, 0, 0, 0, 0, 0, 0, 1, 1] (by decide +kernel) ?_ | refine DW.nil ?_ | (with_reducible refine IL.wr ?_ ?_; focus exact cW) | (with_reducible refine DW.wr ?_ ?_; focus exact cW) | refine IL.sgF ttok ?_ | refine IL.nn ?_ | refine DW.reF ttok ?_ | refine DW.rmF ttok ?_ | refine DW.nn ?_ | refine DW.nb ?_ | refine IL.cSF ttok ent16 [.own, .bor, .bor, .bor] false ?_ (hS := by exact hrec) | refine IL.cSF ttok ent18 [.own, .bor, .bor] false ?_ (hS := by exact hins) | refine IL.cSF ttok ent19 [.own, .bor, .bor] false ?_ (hS := by exact hhp) | refine IL.cSF ttok ent20 [.own, .bor, .bor] false ?_ (hS := by exact hbk) | refine IL.cSF ttok ent21 [.bor, .bor, .bor] true ?_ (hS := by exact hpv) | refine IL.cSF ttok ent22 [.own, .bor, .bor] false ?_ (hS := by exact hrv) | refine IL.cSF ttok ent23 [.own, .bor, .bor] false ?_ (hS := by exact hpi) | refine DW.cSF ttok ent24 [.bor, .bor] true ?_ (hS := by exact less_call _ _) | refine IL.cSF ttok ent25 [.own, .bor, .bor, .bor] false ?_ (hS := by exact hpe) | refine IL.cSF ttok ent26 [.own, .bor, .bor, .bor] false ?_ (hS := by exact hpt) | (((first | refine IL.ag (fun h => ?_) (fun h => ?_) | refine DW.ag (fun h => ?_) (fun h => ?_) | refine IL.ap (fun h => ?_) (fun h => ?_) | refine DW.ap (fun h => ?_) (fun h => ?_)); (fail_if_success (focus (simp only [reduceCtorEq] at h)))); all_goals first | (simp only [reduceCtorEq] at h; done) | (simp only [hsA, hsD, hsE, ne_eq] at h; first | done | (exfalso; omega; done) | skip) | skip))
            refine WK.join ⟨134, [(0, .sl 0 0 0 n), (1, ii a), (2, ii b), (3, ii lim1), (8, .v (.bool wb)), (9, .v (.bool wp)), (10, ii (b - a : Nat)), (11, ii pv), (12, ii (hintI hint))], [some ⟨true, 24, n, true, rwC d2, 0, false⟩]⟩ ?_ ?_
            · refine WK.cond (b := hintI ch == 2) rfl (fun h => ?_) (fun h => ?_)
              · have hdec : ch = .decreasing := by rw [hintI_2] at h; simpa using h
                rw [if_pos hdec] at f4 f5 f6
                have hrv := rev_call d1 n a b n1 (by omega) (by omega) h2 (by omega)
                rw [← f4] at hrv
                have e1 : (b : Int) - 1 - ((c1 : Int) - (a : Int)) = (pv : Int) := by omega
                subst f6
                have e2 : hintI Hint.increasing = 1 := rfl
                have FX := And.intro hn0 e1
                repeat' (first | refine WK.seq ?_ | refine WK.reg ?_ | refine IL.nil ?_ | refine WK.skip ?_ | refine WK.block ?_ | refine WK.exit_here ?_ | refine WK.e1 ?_ | refine WK.e2 ?_ | refine WK.drawnS (id := 17) mixed [0] [12] [0, 0, 0, 0, 0, 0, 0, 0, 0, 0, 0, 0, 0, 1, 1] [0, 0, 0, 0, 0, 0, 0, 0, 0, 0, 0, 0, 0, 1, 1] (by decide +kernel) ?_ | refine DW.nil ?_ | (with_reducible refine IL.wr ?_ ?_; focus exact cW) | (with_reducible refine DW.wr ?_ ?_; focus exact cW) | refine IL.sgF ttok ?_ | refine IL.nn ?_ | refine DW.reF ttok ?_ | refine DW.rmF ttok ?_ | refine DW.nn ?_ | refine DW.nb ?_ | refine IL.cSF ttok ent16 [.own, .bor, .bor, .bor] false ?_ (hS := by exact hrec) | refine IL.cSF ttok ent18 [.own, .bor, .bor] false ?_ (hS := by exact hins) | refine IL.cSF ttok ent19 [.own, .bor, .bor] false ?_ (hS := by exact hhp) | refine IL.cSF ttok ent20 [.own, .bor, .bor] false ?_ (hS := by exact hbk) | refine IL.cSF ttok ent21 [.bor, .bor, .bor] true ?_ (hS := by exact hpv) | refine IL.cSF ttok ent22 [.own, .bor, .bor] false ?_ (hS := by exact hrv) | refine IL.cSF ttok ent23 [.own, .bor, .bor] false ?_ (hS := by exact hpi) | refine DW.cSF ttok ent24 [.bor, .bor] true ?_ (hS := by exact less_call _ _) | refine IL.cSF ttok ent25 [.own, .bor, .bor, .bor] false ?_ (hS := by exact hpe) | refine IL.cSF ttok ent26 [.own, .bor, .bor, .bor] false ?_ (hS := by exact hpt) | ((first | ((first | refine IL.ag (fun h => ?_) (fun h => ?_) | refine DW.ag (fun h => ?_) (fun h => ?_) | refine IL.ap (fun h => ?_) (fun h => ?_) | refine DW.ap (fun h => ?_) (fun h => ?_)); (fail_if_success (focus (simp only [reduceCtorEq] at h)))) | refine WK.cn (fun h => ?_) (fun h => ?_)); all_goals first | (simp only [reduceCtorEq] at h; done) | (simp only [hsA, hsD, hsE, ne_eq] at h; first | done | (exfalso; omega; done) | skip) | skip))
                (refine Weak.renP 1 [0] hfx (fun k h => of_decide_eq_true h) (fun k hk => by obtain rfl : k = 0 := (by omega); exact ⟨rfl, _, rfl, rfl⟩) rfl ?_ ?_ rfl <;> (simp only [go_sem, reduceIte, exists_eq_left', exists_eq_left, Blk.mk.injEq, e1, e2] <;> (try and_intros) <;> first | rfl | omega))
              · have hdec : ¬ ch = .decreasing := by rw [hintI_2] at h; simpa using h
                rw [if_neg hdec] at f4 f5 f6
                subst f4
                subst f5
                subst f6
                repeat' (first | refine WK.seq ?_ | refine WK.reg ?_ | refine IL.nil ?_ | refine WK.skip ?_ | refine WK.block ?_ | refine WK.exit_here ?_ | refine WK.e1 ?_ | refine WK.e2 ?_ | refine WK.drawnS (id := 17) mixed [0] [12] [0, 0, 0, 0, 0, 0, 0, 0, 0, 0, 0, 0, 0, 1, 1] [0, 0, 0, 0, 0, 0, 0, 0, 0, 0, 0, 0, 0, 1, 1] (by decide +kernel) ?_ | refine DW.nil ?_ | (with_reducible refine IL.wr ?_ ?_; focus exact cW) | (with_reducible refine DW.wr ?_ ?_; focus exact cW) | refine IL.sg ttok ?_ | refine IL.nn ?_ | refine DW.re ttok ?_ | refine DW.rm ttok ?_ | refine DW.nn ?_ | refine DW.nb ?_ | refine IL.cS ttok ent16 [.own, .bor, .bor, .bor] false ?_ (hS := by exact hrec) | refine IL.cS ttok ent18 [.own, .bor, .bor] false ?_ (hS := by exact hins) | refine IL.cS ttok ent19 [.own, .bor, .bor] false ?_ (hS := by exact hhp) | refine IL.cS ttok ent20 [.own, .bor, .bor] false ?_ (hS := by exact hbk) | refine IL.cS ttok ent21 [.bor, .bor, .bor] true ?_ (hS := by exact hpv) | refine IL.cS ttok ent22 [.own, .bor, .bor] false ?_ (hS := by exact hrv) | refine IL.cS ttok ent23 [.own, .bor, .bor] false ?_ (hS := by exact hpi) | refine DW.cS ttok ent24 [.bor, .bor] true ?_ (hS := by exact less_call _ _) | refine IL.cS ttok ent25 [.own, .bor, .bor, .bor] false ?_ (hS := by exact hpe) | refine IL.cS ttok ent26 [.own, .bor, .bor, .bor] false ?_ (hS := by exact hpt) | ((first | ((first | refine IL.ag (fun h => ?_) (fun h => ?_) | refine DW.ag (fun h => ?_) (fun h => ?_) | refine IL.ap (fun h => ?_) (fun h => ?_) | refine DW.ap (fun h => ?_) (fun h => ?_)); (fail_if_success (focus (simp only [reduceCtorEq] at h)))) | refine WK.cn (fun h => ?_) (fun h => ?_)); all_goals first | (simp only [reduceCtorEq] at h; done) | (simp only [hsA, hsD, hsE, ne_eq] at h; first | done | (exfalso; omega; done) | skip) | skip))
                (refine Weak.renP 1 [0] hfx (fun k h => of_decide_eq_true h) (fun k hk => by obtain rfl : k = 0 := (by omega); exact ⟨rfl, _, rfl, rfl⟩) rfl ?_ ?_ rfl <;> (simp only [go_sem, reduceIte, exists_eq_left', exists_eq_left, Blk.mk.injEq] <;> (try and_intros) <;> first | rfl | omega))
            · refine WK.seq ?_
              cases dn
              · refine WK.join ⟨134, [(0, .sl 0 0 0 n), (1, ii a), (2, ii b), (3, ii lim1), (8, .v (.bool wb)), (9, .v (.bool wp)), (10, ii (b - a : Nat)), (11, ii pv)], [some ⟨true, 24, n, true, rwC d3, 0, false⟩]⟩ ?_ ?_
                · cases wb
                  · obtain rfl : d3 = d2 := by simpa using f7
                    repeat' (first | refine WK.seq ?_ | refine WK.reg ?_ | refine IL.nil ?_ | refine WK.skip ?_ | refine WK.block ?_ | refine WK.exit_here ?_ | refine WK.e1 ?_ | refine WK.e2 ?_ | refine WK.drawnS (id := 17) mixed [0] [12] [0, 0, 0, 0, 0, 0, 0, 0, 0, 0, 0, 0, 0, 1, 1] [0, 0, 0, 0, 0, 0, 0, 0, 0, 0, 0, 0, 0, 1, 1] (by decide +kernel) ?_ | refine DW.nil ?_ | (with_reducible refine IL.wr ?_ ?_; focus exact cW) | (with_reducible refine DW.wr ?_ ?_; focus exact cW) | refine IL.sg ttok ?_ | refine IL.nn ?_ | refine DW.re ttok ?_ | refine DW.rm ttok ?_ | refine DW.nn ?_ | refine DW.nb ?_ | refine IL.cS ttok ent16 [.own, .bor, .bor, .bor] false ?_ (hS := by exact hrec) | refine IL.cS ttok ent18 [.own, .bor, .bor] false ?_ (hS := by exact hins) | refine IL.cS ttok ent19 [.own, .bor, .bor] false ?_ (hS := by exact hhp) | refine IL.cS ttok ent20 [.own, .bor, .bor] false ?_ (hS := by exact hbk) | refine IL.cS ttok ent21 [.bor, .bor, .bor] true ?_ (hS := by exact hpv) | refine IL.cS ttok ent22 [.own, .bor, .bor] false ?_ (hS := by exact hrv) | refine IL.cS ttok ent23 [.own, .bor, .bor] false ?_ (hS := by exact hpi) | refine DW.cS ttok ent24 [.bor, .bor] true ?_ (hS := by exact less_call _ _) | refine IL.cS ttok ent25 [.own, .bor, .bor, .bor] false ?_ (hS := by exact hpe) | refine IL.cS ttok ent26 [.own, .bor, .bor, .bor] false ?_ (hS := by exact hpt) | ((first | ((first | refine IL.ag (fun h => ?_) (fun h => ?_) | refine DW.ag (fun h => ?_) (fun h => ?_) | refine IL.ap (fun h => ?_) (fun h => ?_) | refine DW.ap (fun h => ?_) (fun h => ?_)); (fail_if_success (focus (simp only [reduceCtorEq] at h)))) | refine WK.cn (fun h => ?_) (fun h => ?_)); all_goals first | (simp only [reduceCtorEq] at h; done) | (simp only [hsA, hsD, hsE, ne_eq] at h; first | done | (exfalso; omega; done) | skip) | skip))
                    (refine Weak.renP 1 [0] hfx (fun k h => of_decide_eq_true h) (fun k hk => by obtain rfl : k = 0 := (by omega); exact ⟨rfl, _, rfl, rfl⟩) rfl ?_ ?_ rfl <;> (simp only [go_sem, reduceIte, exists_eq_left', exists_eq_left, Blk.mk.injEq] <;> (try and_intros) <;> first | rfl | omega))
                  · cases wp
                    · obtain rfl : d3 = d2 := by simpa using f7
                      repeat' (first | refine WK.seq ?_ | refine WK.reg ?_ | refine IL.nil ?_ | refine WK.skip ?_ | refine WK.block ?_ | refine WK.exit_here ?_ | refine WK.e1 ?_ | refine WK.e2 ?_ | refine WK.drawnS (id := 17) mixed [0] [12] [0, 0, 0, 0, 0, 0, 0, 0, 0, 0, 0, 0, 0, 1, 1] [0, 0, 0, 0, 0, 0, 0, 0, 0, 0, 0, 0, 0, 1, 1] (by decide +kernel) ?_ | refine DW.nil ?_ | (with_reducible refine IL.wr ?_ ?_; focus exact cW) | (with_reducible refine DW.wr ?_ ?_; focus exact cW) | refine IL.sg ttok ?_ | refine IL.nn ?_ | refine DW.re ttok ?_ | refine DW.rm ttok ?_ | refine DW.nn ?_ | refine DW.nb ?_ | refine IL.cS ttok ent16 [.own, .bor, .bor, .bor] false ?_ (hS := by exact hrec) | refine IL.cS ttok ent18 [.own, .bor, .bor] false ?_ (hS := by exact hins) | refine IL.cS ttok ent19 [.own, .bor, .bor] false ?_ (hS := by exact hhp) | refine IL.cS ttok ent20 [.own, .bor, .bor] false ?_ (hS := by exact hbk) | refine IL.cS ttok ent21 [.bor, .bor, .bor] true ?_ (hS := by exact hpv) | refine IL.cS ttok ent22 [.own, .bor, .bor] false ?_ (hS := by exact hrv) | refine IL.cS ttok ent23 [.own, .bor, .bor] false ?_ (hS := by exact hpi) | refine DW.cS ttok ent24 [.bor, .bor] true ?_ (hS := by exact less_call _ _) | refine IL.cS ttok ent25 [.own, .bor, .bor, .bor] false ?_ (hS := by exact hpe) | refine IL.cS ttok ent26 [.own, .bor, .bor, .bor] false ?_ (hS := by exact hpt) | ((first | ((first | refine IL.ag (fun h => ?_) (fun h => ?_) | refine DW.ag (fun h => ?_) (fun h => ?_) | refine IL.ap (fun h => ?_) (fun h => ?_) | refine DW.ap (fun h => ?_) (fun h => ?_)); (fail_if_success (focus (simp only [reduceCtorEq] at h)))) | refine WK.cn (fun h => ?_) (fun h => ?_)); all_goals first | (simp only [reduceCtorEq] at h; done) | (simp only [hsA, hsD, hsE, ne_eq] at h; first | done | (exfalso; omega; done) | skip) | skip))
                      (refine Weak.renP 1 [0] hfx (fun k h => of_decide_eq_true h) (fun k hk => by obtain rfl : k = 0 := (by omega); exact ⟨rfl, _, rfl, rfl⟩) rfl ?_ ?_ rfl <;> (simp only [go_sem, reduceIte, exists_eq_left', exists_eq_left, Blk.mk.injEq] <;> (try and_intros) <;> first | rfl | omega))
                    · by_cases hin : hint = .increasing
                      · have g1 : (hintI hint == 1) = true := by rw [hintI_1]; simpa using hin
                        rw [if_pos (by rw [hin]; rfl)] at f7
                        have hpi := part_call d2 n a b n2 (by omega) h2 hsz
                        rw [← f7] at hpi
                        simp only at hpi
                        have FX := And.intro g1 hn0
                        repeat' (first | refine WK.seq ?_ | refine WK.reg ?_ | refine IL.nil ?_ | refine WK.skip ?_ | refine WK.block ?_ | refine WK.exit_here ?_ | refine WK.e1 ?_ | refine WK.e2 ?_ | refine WK.drawnS (id := 17) mixed [0] [12] [0, 0, 0, 0, 0, 0, 0, 0, 0, 0, 0, 0, 0, 1, 1] [0, 0, 0, 0, 0, 0, 0, 0, 0, 0, 0, 0, 0, 1, 1] (by decide +kernel) ?_ | refine DW.nil ?_ | (with_reducible refine IL.wr ?_ ?_; focus exact cW) | (with_reducible refine DW.wr ?_ ?_; focus exact cW) | refine IL.sgF ttok ?_ | refine IL.nn ?_ | refine DW.reF ttok ?_ | refine DW.rmF ttok ?_ | refine DW.nn ?_ | refine DW.nb ?_ | refine IL.cSF ttok ent16 [.own, .bor, .bor, .bor] false ?_ (hS := by exact hrec) | refine IL.cSF ttok ent18 [.own, .bor, .bor] false ?_ (hS := by exact hins) | refine IL.cSF ttok ent19 [.own, .bor, .bor] false ?_ (hS := by exact hhp) | refine IL.cSF ttok ent20 [.own, .bor, .bor] false ?_ (hS := by exact hbk) | refine IL.cSF ttok ent21 [.bor, .bor, .bor] true ?_ (hS := by exact hpv) | refine IL.cSF ttok ent22 [.own, .bor, .bor] false ?_ (hS := by exact hrv) | refine IL.cSF ttok ent23 [.own, .bor, .bor] false ?_ (hS := by exact hpi) | refine DW.cSF ttok ent24 [.bor, .bor] true ?_ (hS := by exact less_call _ _) | refine IL.cSF ttok ent25 [.own, .bor, .bor, .bor] false ?_ (hS := by exact hpe) | refine IL.cSF ttok ent26 [.own, .bor, .bor, .bor] false ?_ (hS := by exact hpt) | ((first | ((first | refine IL.ag (fun h => ?_) (fun h => ?_) | refine DW.ag (fun h => ?_) (fun h => ?_) | refine IL.ap (fun h => ?_) (fun h => ?_) | refine DW.ap (fun h => ?_) (fun h => ?_)); (fail_if_success (focus (simp only [reduceCtorEq] at h)))) | refine WK.cn (fun h => ?_) (fun h => ?_)); all_goals first | (simp only [reduceCtorEq] at h; done) | (simp only [hsA, hsD, hsE, ne_eq] at h; first | done | (exfalso; omega; done) | skip) | skip))
                        (refine Weak.renP 1 [0] hfx (fun k h => of_decide_eq_true h) (fun k hk => by obtain rfl : k = 0 := (by omega); exact ⟨rfl, _, rfl, rfl⟩) rfl ?_ ?_ rfl <;> (simp only [go_sem, reduceIte, exists_eq_left', exists_eq_left, Blk.mk.injEq] <;> (try and_intros) <;> first | rfl | omega))
                      · have g1 : (hintI hint == 1) = false := by rw [hintI_1]; simpa using hin
                        obtain rfl : d3 = d2 := by simpa [hin] using f7
                        have FX := g1
                        repeat' (first | refine WK.seq ?_ | refine WK.reg ?_ | refine IL.nil ?_ | refine WK.skip ?_ | refine WK.block ?_ | refine WK.exit_here ?_ | refine WK.e1 ?_ | refine WK.e2 ?_ | refine WK.drawnS (id := 17) mixed [0] [12] [0, 0, 0, 0, 0, 0, 0, 0, 0, 0, 0, 0, 0, 1, 1] [0, 0, 0, 0, 0, 0, 0, 0, 0, 0, 0, 0, 0, 1, 1] (by decide +kernel) ?_ | refine DW.nil ?_ | (with_reducible refine IL.wr ?_ ?_; focus exact cW) | (with_reducible refine DW.wr ?_ ?_; focus exact cW) | refine IL.sgF ttok ?_ | refine IL.nn ?_ | refine DW.reF ttok ?_ | refine DW.rmF ttok ?_ | refine DW.nn ?_ | refine DW.nb ?_ | refine IL.cSF ttok ent16 [.own, .bor, .bor, .bor] false ?_ (hS := by exact hrec) | refine IL.cSF ttok ent18 [.own, .bor, .bor] false ?_ (hS := by exact hins) | refine IL.cSF ttok ent19 [.own, .bor, .bor] false ?_ (hS := by exact hhp) | refine IL.cSF ttok ent20 [.own, .bor, .bor] false ?_ (hS := by exact hbk) | refine IL.cSF ttok ent21 [.bor, .bor, .bor] true ?_ (hS := by exact hpv) | refine IL.cSF ttok ent22 [.own, .bor, .bor] false ?_ (hS := by exact hrv) | refine IL.cSF ttok ent23 [.own, .bor, .bor] false ?_ (hS := by exact hpi) | refine DW.cSF ttok ent24 [.bor, .bor] true ?_ (hS := by exact less_call _ _) | refine IL.cSF ttok ent25 [.own, .bor, .bor, .bor] false ?_ (hS := by exact hpe) | refine IL.cSF ttok ent26 [.own, .bor, .bor, .bor] false ?_ (hS := by exact hpt) | ((first | ((first | refine IL.ag (fun h => ?_) (fun h => ?_) | refine DW.ag (fun h => ?_) (fun h => ?_) | refine IL.ap (fun h => ?_) (fun h => ?_) | refine DW.ap (fun h => ?_) (fun h => ?_)); (fail_if_success (focus (simp only [reduceCtorEq] at h)))) | refine WK.cn (fun h => ?_) (fun h => ?_)); all_goals first | (simp only [reduceCtorEq] at h; done) | (simp only [hsA, hsD, hsE, ne_eq] at h; first | done | (exfalso; omega; done) | skip) | skip))
                        (refine Weak.renP 1 [0] hfx (fun k h => of_decide_eq_true h) (fun k hk => by obtain rfl : k = 0 := (by omega); exact ⟨rfl, _, rfl, rfl⟩) rfl ?_ ?_ rfl <;> (simp only [go_sem, reduceIte, exists_eq_left', exists_eq_left, Blk.mk.injEq] <;> (try and_intros) <;> first | rfl | omega))
                · have heq := heq rfl
                  have hlf := hlf rfl
                  have hrt := hrt rfl
                  clear hdone f1 f2 f3 f4 f5 f6 f7 hpv hcb n1 n2
                  refine WK.seq ?_
                  have hl := rwC_len d3
                  rw [n3] at hl
                  have e2 : (rwC d3)[pv]? = some (uv d3[pv]!) := rwC_at (by omega)
                  have e1 : (rwC d3)[a - 1]? = some (uv d3[a - 1]!) := rwC_at (by omega)
                  have hw : a > 0 → (a : Int) - 1 = ((a - 1 : Nat) : Int) := by omega
                  by_cases hq : (decide (a > 0) && !ltInt d3[a - 1]! d3[pv]!) = true
                  · have pe := partitionEqual_bd d3 a b pv (by omega)
                    have hEq := heq hq ⟨pe.1, pe.2.1⟩
                    clear heq hlf hrt
                    have hpe := pareq_call d3 n a b pv n3 (by omega) h2 (by omega) hsz
                    generalize partitionEqual ltInt d3 a b pv = e at *
                    obtain ⟨mid, d4⟩ := e
                    simp only at pe hEq hpe
                    have hq1 : a > 0 ∧ ltInt d3[a - 1]! d3[pv]! = false := by simpa using hq
                    have ga : decide ((a : Int) > 0) = true := decide_eq_true (by omega)
                    have hle := hq1.2
                    have hw := hw hq1.1
                    have n4 : d4.size = n := by omega
                    generalize d3[a - 1]! = u at *
                    generalize d3[pv]! = v at *
                    generalize a - 1 = a1 at *
                    have FX := And.intro ga (And.intro e1 (And.intro e2 (And.intro hl (And.intro hw (And.intro hle hn0)))))
                    repeat' (first | refine WK.seq ?_ | refine WK.reg ?_ | refine IL.nil ?_ | refine WK.skip ?_ | refine WK.block ?_ | refine WK.exit_here ?_ | refine WK.e1 ?_ | refine WK.e2 ?_ | refine WK.drawnS (id := 17) mixed [0] [12] [0, 0, 0, 0, 0, 0, 0, 0, 0, 0, 0, 0, 0, 1, 1] [0, 0, 0, 0, 0, 0, 0, 0, 0, 0, 0, 0, 0, 1, 1] (by decide +kernel) ?_ | refine DW.nil ?_ | (with_reducible refine IL.wr ?_ ?_; focus exact cW) | (with_reducible refine DW.wr ?_ ?_; focus exact cW) | refine IL.sgF ttok ?_ | refine IL.nn ?_ | refine DW.reF ttok ?_ | refine DW.rmF ttok ?_ | refine DW.nn ?_ | refine DW.nb ?_ | refine IL.cSF ttok ent16 [.own, .bor, .bor, .bor] false ?_ (hS := by exact hrec) | refine IL.cSF ttok ent18 [.own, .bor, .bor] false ?_ (hS := by exact hins) | refine IL.cSF ttok ent19 [.own, .bor, .bor] false ?_ (hS := by exact hhp) | refine IL.cSF ttok ent20 [.own, .bor, .bor] false ?_ (hS := by exact hbk) | refine IL.cSF ttok ent21 [.bor, .bor, .bor] true ?_ (hS := by exact hpv) | refine IL.cSF ttok ent22 [.own, .bor, .bor] false ?_ (hS := by exact hrv) | refine IL.cSF ttok ent23 [.own, .bor, .bor] false ?_ (hS := by exact hpi) | refine DW.cSF ttok ent24 [.bor, .bor] true ?_ (hS := by exact less_call _ _) | refine IL.cSF ttok ent25 [.own, .bor, .bor, .bor] false ?_ (hS := by exact hpe) | refine IL.cSF ttok ent26 [.own, .bor, .bor, .bor] false ?_ (hS := by exact hpt) | ((first | ((first | refine IL.ag (fun h => ?_) (fun h => ?_) | refine DW.ag (fun h => ?_) (fun h => ?_) | refine IL.ap (fun h => ?_) (fun h => ?_) | refine DW.ap (fun h => ?_) (fun h => ?_)); (fail_if_success (focus (simp only [reduceCtorEq] at h)))) | refine WK.cn (fun h => ?_) (fun h => ?_)); all_goals first | (simp only [reduceCtorEq] at h; done) | (simp only [hsA, hsD, hsE, ne_eq] at h; first | done | (exfalso; omega; done) | skip) | skip))
                    refine ⟨(mid, b, lim1, wb, wp, d4), by simp only; omega, ⟨by simp only; omega, by simp only; omega, by simp only; omega, hl1, n4, hEq.symm⟩, ?_⟩
                    (refine Weak.renP 1 [0] hfx (fun k h => of_decide_eq_true h) (fun k hk => by obtain rfl : k = 0 := (by omega); exact ⟨rfl, _, rfl, rfl⟩) rfl ?_ ?_ rfl <;> (simp only [go_sem, reduceIte, exists_eq_left', exists_eq_left, Blk.mk.injEq] <;> (try and_intros) <;> first | rfl | omega))
                  · have hq2 : (decide (a > 0) && !ltInt d3[a - 1]! d3[pv]!) = false := by simpa using hq
                    refine WK.join ⟨134, [(0, .sl 0 0 0 n), (1, ii a), (2, ii b), (3, ii lim1), (8, .v (.bool wb)), (9, .v (.bool wp)), (10, ii (b - a : Nat)), (11, ii pv)], [some ⟨true, 24, n, true, rwC d3, 0, false⟩]⟩ ?_ ?_
                    · by_cases a0 : a > 0
                      · have ga : decide ((a : Int) > 0) = true := decide_eq_true (by omega)
                        have hle : ltInt d3[a - 1]! d3[pv]! = true := by rw [decide_eq_true a0] at hq2; simpa using hq2
                        have hw := hw a0
                        generalize d3[a - 1]! = u at *
                        generalize d3[pv]! = v at *
                        generalize a - 1 = a1 at *
                        have FX := And.intro ga (And.intro e1 (And.intro e2 (And.intro hl (And.intro hw hle))))
                        repeat' (first | refine WK.seq ?_ | refine WK.reg ?_ | refine IL.nil ?_ | refine WK.skip ?_ | refine WK.block ?_ | refine WK.exit_here ?_ | refine WK.e1 ?_ | refine WK.e2 ?_ | refine WK.drawnS (id := 17) mixed [0] [12] [0, 0, 0, 0, 0, 0, 0, 0, 0, 0, 0, 0, 0, 1, 1] [0, 0, 0, 0, 0, 0, 0, 0, 0, 0, 0, 0, 0, 1, 1] (by decide +kernel) ?_ | refine DW.nil ?_ | (with_reducible refine IL.wr ?_ ?_; focus exact cW) | (with_reducible refine DW.wr ?_ ?_; focus exact cW) | refine IL.sgF ttok ?_ | refine IL.nn ?_ | refine DW.reF ttok ?_ | refine DW.rmF ttok ?_ | refine DW.nn ?_ | refine DW.nb ?_ | refine IL.cSF ttok ent16 [.own, .bor, .bor, .bor] false ?_ (hS := by exact hrec) | refine IL.cSF ttok ent18 [.own, .bor, .bor] false ?_ (hS := by exact hins) | refine IL.cSF ttok ent19 [.own, .bor, .bor] false ?_ (hS := by exact hhp) | refine IL.cSF ttok ent20 [.own, .bor, .bor] false ?_ (hS := by exact hbk) | refine IL.cSF ttok ent21 [.bor, .bor, .bor] true ?_ (hS := by exact hpv) | refine IL.cSF ttok ent22 [.own, .bor, .bor] false ?_ (hS := by exact hrv) | refine IL.cSF ttok ent23 [.own, .bor, .bor] false ?_ (hS := by exact hpi) | refine DW.cSF ttok ent24 [.bor, .bor] true ?_ (hS := by exact less_call _ _) | refine IL.cSF ttok ent25 [.own, .bor, .bor, .bor] false ?_ (hS := by exact hpe) | refine IL.cSF ttok ent26 [.own, .bor, .bor, .bor] false ?_ (hS := by exact hpt) | ((first | ((first | refine IL.ag (fun h => ?_) (fun h => ?_) | refine DW.ag (fun h => ?_) (fun h => ?_) | refine IL.ap (fun h => ?_) (fun h => ?_) | refine DW.ap (fun h => ?_) (fun h => ?_)); (fail_if_success (focus (simp only [reduceCtorEq] at h)))) | refine WK.cn (fun h => ?_) (fun h => ?_)); all_goals first | (simp only [reduceCtorEq] at h; done) | (simp only [hsA, hsD, hsE, ne_eq] at h; first | done | (exfalso; omega; done) | skip) | skip))
                        (refine Weak.renP 1 [0] hfx (fun k h => of_decide_eq_true h) (fun k hk => by obtain rfl : k = 0 := (by omega); exact ⟨rfl, _, rfl, rfl⟩) rfl ?_ ?_ rfl <;> (simp only [go_sem, reduceIte, exists_eq_left', exists_eq_left, Blk.mk.injEq] <;> (try and_intros) <;> first | rfl | omega))
                      · have ga : decide ((a : Int) > 0) = false := decide_eq_false (by omega)
                        have FX := ga
                        repeat' (first | refine WK.seq ?_ | refine WK.reg ?_ | refine IL.nil ?_ | refine WK.skip ?_ | refine WK.block ?_ | refine WK.exit_here ?_ | refine WK.e1 ?_ | refine WK.e2 ?_ | refine WK.drawnS (id := 17) mixed [0] [12] [0, 0, 0, 0, 0, 0, 0, 0, 0, 0, 0, 0, 0, 1, 1] [0, 0, 0, 0, 0, 0, 0, 0, 0, 0, 0, 0, 0, 1, 1] (by decide +kernel) ?_ | refine DW.nil ?_ | (with_reducible refine IL.wr ?_ ?_; focus exact cW) | (with_reducible refine DW.wr ?_ ?_; focus exact cW) | refine IL.sgF ttok ?_ | refine IL.nn ?_ | refine DW.reF ttok ?_ | refine DW.rmF ttok ?_ | refine DW.nn ?_ | refine DW.nb ?_ | refine IL.cSF ttok ent16 [.own, .bor, .bor, .bor] false ?_ (hS := by exact hrec) | refine IL.cSF ttok ent18 [.own, .bor, .bor] false ?_ (hS := by exact hins) | refine IL.cSF ttok ent19 [.own, .bor, .bor] false ?_ (hS := by exact hhp) | refine IL.cSF ttok ent20 [.own, .bor, .bor] false ?_ (hS := by exact hbk) | refine IL.cSF ttok ent21 [.bor, .bor, .bor] true ?_ (hS := by exact hpv) | refine IL.cSF ttok ent22 [.own, .bor, .bor] false ?_ (hS := by exact hrv) | refine IL.cSF ttok ent23 [.own, .bor, .bor] false ?_ (hS := by exact hpi) | refine DW.cSF ttok ent24 [.bor, .bor] true ?_ (hS := by exact less_call _ _) | refine IL.cSF ttok ent25 [.own, .bor, .bor, .bor] false ?_ (hS := by exact hpe) | refine IL.cSF ttok ent26 [.own, .bor, .bor, .bor] false ?_ (hS := by exact hpt) | ((first | ((first | refine IL.ag (fun h => ?_) (fun h => ?_) | refine DW.ag (fun h => ?_) (fun h => ?_) | refine IL.ap (fun h => ?_) (fun h => ?_) | refine DW.ap (fun h => ?_) (fun h => ?_)); (fail_if_success (focus (simp only [reduceCtorEq] at h)))) | refine WK.cn (fun h => ?_) (fun h => ?_)); all_goals first | (simp only [reduceCtorEq] at h; done) | (simp only [hsA, hsD, hsE, ne_eq] at h; first | done | (exfalso; omega; done) | skip) | skip))
                        (refine Weak.renP 1 [0] hfx (fun k h => of_decide_eq_true h) (fun k hk => by obtain rfl : k = 0 := (by omega); exact ⟨rfl, _, rfl, rfl⟩) rfl ?_ ?_ rfl <;> (simp only [go_sem, reduceIte, exists_eq_left', exists_eq_left, Blk.mk.injEq] <;> (try and_intros) <;> first | rfl | omega))
                    · have pt := partition_bd d3 a b pv (by omega)
                      have hlf := hlf hq2 ⟨pt.1, pt.2.1⟩
                      have hrt := hrt hq2 ⟨pt.1, pt.2.1⟩
                      have hpt := part_call2 d3 n a b pv n3 (by omega) h2 (by omega) hsz
                      generalize partition ltInt d3 a b pv = e at *
                      obtain ⟨mid, ap, d4⟩ := e
                      simp only at pt hlf hrt hpt
                      have n4 : d4.size = n := by omega
                      have hq8 : Int.tdiv ((b - a : Nat) : Int) 8 = (((b - a) / 8 : Nat) : Int) := by rw [Int.tdiv_eq_ediv_of_nonneg (by omega)]; omega
                      have hm1 : (mid : Int) + 1 = ((mid + 1 : Nat) : Int) := by omega
                      have hma : (mid : Int) - (a : Int) = ((mid - a : Nat) : Int) := by omega
                      have hbm : (b : Int) - (mid : Int) = ((b - mid : Nat) : Int) := by omega
                      by_cases hm : mid - a < b - mid
                      · have hlf := hlf hm
                        have gm : decide (((mid - a : Nat) : Int) < ((b - mid : Nat) : Int)) = true := decide_eq_true (by omega)
                        have gb : decide (((mid - a : Nat) : Int) ≥ (((b - a) / 8 : Nat) : Int)) = decide (mid - a ≥ (b - a) / 8) := by rw [decide_eq_decide]; omega
                        have hrec := IH d4 a mid lim1 (by omega) n4 (by omega) (by omega) hl1
                        have n5 := pdq_size n hsz (mid - a + 1) a mid lim1 true true d4 (by omega) (by omega) (by omega) n4
                        generalize pdq ltInt d4 a mid lim1 true true = d5 at *
                        generalize decide (mid - a ≥ (b - a) / 8) = B at *
                        have FX := And.intro hq8 (And.intro hm1 (And.intro hma (And.intro hbm (And.intro gm (And.intro gb hn0)))))
                        repeat' (first | refine WK.seq ?_ | refine WK.reg ?_ | refine IL.nil ?_ | refine WK.skip ?_ | refine WK.block ?_ | refine WK.exit_here ?_ | refine WK.e1 ?_ | refine WK.e2 ?_ | refine WK.drawnS (id := 17) mixed [0] [12] [0, 0, 0, 0, 0, 0, 0, 0, 0, 0, 0, 0, 0, 1, 1] [0, 0, 0, 0, 0, 0, 0, 0, 0, 0, 0, 0, 0, 1, 1] (by decide +kernel) ?_ | refine DW.nil ?_ | (with_reducible refine IL.wr ?_ ?_; focus exact cW) | (with_reducible refine DW.wr ?_ ?_; focus exact cW) | refine IL.sgF ttok ?_ | refine IL.nn ?_ | refine DW.reF ttok ?_ | refine DW.rmF ttok ?_ | refine DW.nn ?_ | refine DW.nb ?_ | refine IL.cSF ttok ent16 [.own, .bor, .bor, .bor] false ?_ (hS := by exact hrec) | refine IL.cSF ttok ent18 [.own, .bor, .bor] false ?_ (hS := by exact hins) | refine IL.cSF ttok ent19 [.own, .bor, .bor] false ?_ (hS := by exact hhp) | refine IL.cSF ttok ent20 [.own, .bor, .bor] false ?_ (hS := by exact hbk) | refine IL.cSF ttok ent21 [.bor, .bor, .bor] true ?_ (hS := by exact hpv) | refine IL.cSF ttok ent22 [.own, .bor, .bor] false ?_ (hS := by exact hrv) | refine IL.cSF ttok ent23 [.own, .bor, .bor] false ?_ (hS := by exact hpi) | refine DW.cSF ttok ent24 [.bor, .bor] true ?_ (hS := by exact less_call _ _) | refine IL.cSF ttok ent25 [.own, .bor, .bor, .bor] false ?_ (hS := by exact hpe) | refine IL.cSF ttok ent26 [.own, .bor, .bor, .bor] false ?_ (hS := by exact hpt) | ((first | ((first | refine IL.ag (fun h => ?_) (fun h => ?_) | refine DW.ag (fun h => ?_) (fun h => ?_) | refine IL.ap (fun h => ?_) (fun h => ?_) | refine DW.ap (fun h => ?_) (fun h => ?_)); (fail_if_success (focus (simp only [reduceCtorEq] at h)))) | refine WK.cn (fun h => ?_) (fun h => ?_)); all_goals first | (simp only [reduceCtorEq] at h; done) | (simp only [hsA, hsD, hsE, ne_eq] at h; first | done | (exfalso; omega; done) | skip) | skip))
                        refine ⟨(mid + 1, b, lim1, B, ap, d5), by simp only; omega, ⟨by simp only; omega, by simp only; omega, by simp only; omega, hl1, n5, hlf.symm⟩, ?_⟩
                        (refine Weak.renP 1 [0] hfx (fun k h => of_decide_eq_true h) (fun k hk => by obtain rfl : k = 0 := (by omega); exact ⟨rfl, _, rfl, rfl⟩) rfl ?_ ?_ rfl <;> (simp only [go_sem, reduceIte, exists_eq_left', exists_eq_left, Blk.mk.injEq, hm1] <;> (try and_intros) <;> first | rfl | omega))
                      · have hrt := hrt hm
                        have gm : decide (((mid - a : Nat) : Int) < ((b - mid : Nat) : Int)) = false := decide_eq_false (by omega)
                        have gb : decide (((b - mid : Nat) : Int) ≥ (((b - a) / 8 : Nat) : Int)) = decide (b - mid ≥ (b - a) / 8) := by rw [decide_eq_decide]; omega
                        have hrec := IH d4 (mid + 1) b lim1 (by omega) n4 (by omega) (by omega) hl1
                        have n5 := pdq_size n hsz (b - mid + 1) (mid + 1) b lim1 true true d4 (by omega) (by omega) (by omega) n4
                        generalize pdq ltInt d4 (mid + 1) b lim1 true true = d5 at *
                        generalize decide (b - mid ≥ (b - a) / 8) = B at *
                        have FX := And.intro hq8 (And.intro hm1 (And.intro hma (And.intro hbm (And.intro gm (And.intro gb hn0)))))
                        repeat' (first | refine WK.seq ?_ | refine WK.reg ?_ | refine IL.nil ?_ | refine WK.skip ?_ | refine WK.block ?_ | refine WK.exit_here ?_ | refine WK.e1 ?_ | refine WK.e2 ?_ | refine WK.drawnS (id := 17) mixed [0] [12] [0, 0, 0, 0, 0, 0, 0, 0, 0, 0, 0, 0, 0, 1, 1] [0, 0, 0, 0, 0, 0, 0, 0, 0, 0, 0, 0, 0, 1, 1] (by decide +kernel) ?_ | refine DW.nil ?_ | (with_reducible refine IL.wr ?_ ?_; focus exact cW) | (with_reducible refine DW.wr ?_ ?_; focus exact cW) | refine IL.sgF ttok ?_ | refine IL.nn ?_ | refine DW.reF ttok ?_ | refine DW.rmF ttok ?_ | refine DW.nn ?_ | refine DW.nb ?_ | refine IL.cSF ttok ent16 [.own, .bor, .bor, .bor] false ?_ (hS := by exact hrec) | refine IL.cSF ttok ent18 [.own, .bor, .bor] false ?_ (hS := by exact hins) | refine IL.cSF ttok ent19 [.own, .bor, .bor] false ?_ (hS := by exact hhp) | refine IL.cSF ttok ent20 [.own, .bor, .bor] false ?_ (hS := by exact hbk) | refine IL.cSF ttok ent21 [.bor, .bor, .bor] true ?_ (hS := by exact hpv) | refine IL.cSF ttok ent22 [.own, .bor, .bor] false ?_ (hS := by exact hrv) | refine IL.cSF ttok ent23 [.own, .bor, .bor] false ?_ (hS := by exact hpi) | refine DW.cSF ttok ent24 [.bor, .bor] true ?_ (hS := by exact less_call _ _) | refine IL.cSF ttok ent25 [.own, .bor, .bor, .bor] false ?_ (hS := by exact hpe) | refine IL.cSF ttok ent26 [.own, .bor, .bor, .bor] false ?_ (hS := by exact hpt) | ((first | ((first | refine IL.ag (fun h => ?_) (fun h => ?_) | refine DW.ag (fun h => ?_) (fun h => ?_) | refine IL.ap (fun h => ?_) (fun h => ?_) | refine DW.ap (fun h => ?_) (fun h => ?_)); (fail_if_success (focus (simp only [reduceCtorEq] at h)))) | refine WK.cn (fun h => ?_) (fun h => ?_)); all_goals first | (simp only [reduceCtorEq] at h; done) | (simp only [hsA, hsD, hsE, ne_eq] at h; first | done | (exfalso; omega; done) | skip) | skip))
                        refine ⟨(a, mid, lim1, B, ap, d5), by simp only; omega, ⟨by simp only; omega, by simp only; omega, by simp only; omega, hl1, n5, hrt.symm⟩, ?_⟩
                        (refine Weak.renP 1 [0] hfx (fun k h => of_decide_eq_true h) (fun k hk => by obtain rfl : k = 0 := (by omega); exact ⟨rfl, _, rfl, rfl⟩) rfl ?_ ?_ rfl <;> (simp only [go_sem, reduceIte, exists_eq_left', exists_eq_left, Blk.mk.injEq] <;> (try and_intros) <;> first | rfl | omega))
              · by_cases hc : (wb && wp && decide (hint = .increasing)) = true
                · rw [if_pos hc] at f7
                  obtain ⟨⟨rfl, rfl⟩, hin⟩ : (wb = true ∧ wp = true) ∧ hint = .increasing := by simpa using hc
                  have g1 : (hintI hint == 1) = true := by rw [hintI_1]; simpa using hin
                  have hpi := part_call d2 n a b n2 (by omega) h2 hsz
                  rw [← f7] at hpi
                  simp only at hpi
                  have hd := hdone rfl
                  subst hd
                  have FX := And.intro g1 hn0
                  repeat' (first | refine WK.seq ?_ | refine WK.reg ?_ | refine IL.nil ?_ | refine WK.skip ?_ | refine WK.block ?_ | refine WK.exit_here ?_ | refine WK.e1 ?_ | refine WK.e2 ?_ | refine WK.drawnS (id := 17) mixed [0] [12] [0, 0, 0, 0, 0, 0, 0, 0, 0, 0, 0, 0, 0, 1, 1] [0, 0, 0, 0, 0, 0, 0, 0, 0, 0, 0, 0, 0, 1, 1] (by decide +kernel) ?_ | refine DW.nil ?_ | (with_reducible refine IL.wr ?_ ?_; focus exact cW) | (with_reducible refine DW.wr ?_ ?_; focus exact cW) | refine IL.sgF ttok ?_ | refine IL.nn ?_ | refine DW.reF ttok ?_ | refine DW.rmF ttok ?_ | refine DW.nn ?_ | refine DW.nb ?_ | refine IL.cSF ttok ent16 [.own, .bor, .bor, .bor] false ?_ (hS := by exact hrec) | refine IL.cSF ttok ent18 [.own, .bor, .bor] false ?_ (hS := by exact hins) | refine IL.cSF ttok ent19 [.own, .bor, .bor] false ?_ (hS := by exact hhp) | refine IL.cSF ttok ent20 [.own, .bor, .bor] false ?_ (hS := by exact hbk) | refine IL.cSF ttok ent21 [.bor, .bor, .bor] true ?_ (hS := by exact hpv) | refine IL.cSF ttok ent22 [.own, .bor, .bor] false ?_ (hS := by exact hrv) | refine IL.cSF ttok ent23 [.own, .bor, .bor] false ?_ (hS := by exact hpi) | refine DW.cSF ttok ent24 [.bor, .bor] true ?_ (hS := by exact less_call _ _) | refine IL.cSF ttok ent25 [.own, .bor, .bor, .bor] false ?_ (hS := by exact hpe) | refine IL.cSF ttok ent26 [.own, .bor, .bor, .bor] false ?_ (hS := by exact hpt) | ((first | ((first | refine IL.ag (fun h => ?_) (fun h => ?_) | refine DW.ag (fun h => ?_) (fun h => ?_) | refine IL.ap (fun h => ?_) (fun h => ?_) | refine DW.ap (fun h => ?_) (fun h => ?_)); (fail_if_success (focus (simp only [reduceCtorEq] at h)))) | refine WK.cn (fun h => ?_) (fun h => ?_)); all_goals first | (simp only [reduceCtorEq] at h; done) | (simp only [hsA, hsD, hsE, ne_eq] at h; first | done | (exfalso; omega; done) | skip) | skip))
                  all_goals try ((first | refine WK.ret ⟨.inr rfl, ?_⟩ | refine ⟨.inl rfl, ?_⟩ | refine ⟨.inl trivial, ?_⟩); refine Fin.o ?_ ?_ (h1 := by first | rfl | (simp only [go_sem, show Try.f16.results.toList = [] from rfl, reduceIte] <;> rfl)); rotate_left 1; (focus (first | rfl | skip)); all_goals try with_reducible rfl)
                  all_goals skip
                · rw [if_neg hc] at f7
                  simp at f7
end Go.Proofs.Ythneocdjknhgdaa.Su
/- slices.Sort at uint32. -/
namespace Go.Proofs.Ythneocdjknhgdaa.Su
open Go Go.Lift Go.Sort
set_option maxHeartbeats 4000000
set_option linter.unusedSimpArgs false
set_option linter.unusedVariables false
attribute [local irreducible] WK IL IP IG IW DW

theorem sort_arr (d : Array Int) (n : Nat) (hn : d.size = n) (h0 : 0 < n) (hsz : n < 256) : SCall Try.prog 14 [uO n d] (.tup []) [uO n (sort ltInt d)] := by
  unfold sort
  rw [hn]
  have hb := bitsLen_u8 n hsz
  have hbl := len_call n hsz
  have hpd := pdq_call n hsz h0 (n + 1) d 0 n (bitsLen n) (by omega) hn (by omega) (Nat.le_refl _) (by omega)
  rw [show (((0 : Nat) : Int)) = 0 from rfl] at hpd
  generalize pdq ltInt d 0 n (bitsLen n) true true = d' at *
  generalize bitsLen n = B at *
  refine SCall.of_body' (TT := TT) (fun k => decide (k < 1)) [false] ttok Try.func14 rfl (Nat.le_of_ble_eq_true rfl) rfl fun fx hfx => WK.top ?_
  simp only [impl, imp, argT, List.append_nil, List.map_nil, List.map_cons, List.nil_append, List.cons_append, List.length_cons, List.length_nil, show Try.f14.ntmps = 11 from rfl, Nat.zero_add, Nat.reduceAdd]
  have FX := h0
  repeat' (first | refine WK.seq ?_ | refine WK.reg ?_ | refine IL.nil ?_ | (with_reducible refine IL.wr ?_ ?_; focus exact cW) | refine IL.sgF ttok ?_ | refine IL.cSF ttok ent16 [.own, .bor, .bor, .bor] false ?_ (hS := by exact hpd) | refine IL.cSF ttok ent17 [.bor] true ?_ (hS := by exact hbl))
  all_goals try ((first | refine WK.ret ⟨.inr rfl, ?_⟩ | refine ⟨.inl rfl, ?_⟩ | refine ⟨.inl trivial, ?_⟩); refine Fin.o ?_ ?_ (h1 := by first | rfl | (simp only [go_sem, show Try.f14.results.toList = [] from rfl, reduceIte] <;> rfl)); rotate_left 1; (focus (first | rfl | skip)); all_goals try with_reducible rfl)
  all_goals skip
def srtL (K : List Int) : List Int := K.mergeSort fun x y => decide (x ≤ y)
theorem sort_call (K : List Int) (h0 : 0 < K.length) (hsz : K.length < 256) : SCall Try.prog 14 [.own 24 K.length true (encs u32C K)] (.tup []) [.own 24 K.length true (encs u32C (srtL K))] := by
  have h := sort_arr K.toArray K.length (by simp) h0 hsz
  unfold uO rwC at h
  rw [sortInt K] at h
  exact h
theorem ins_nil : SCall Try.prog 18 [.tr 0 [], ii 0, ii 0] (.tup []) [.tr 0 [], ii 0, ii 0] := by
  refine SCall.of_body' (TT := TT) (fun _ => false) [false, false, false] ttok Try.func18 rfl (Nat.le_of_ble_eq_true rfl) rfl fun fx hfx => WK.top ?_
  simp only [impl, imp, argT, List.append_nil, List.map_nil, List.nil_append, show Try.f18.ntmps = 49 from rfl, Nat.zero_add, Nat.reduceAdd]
  repeat' (first | refine WK.seq ?_ | refine WK.reg ?_ | refine IL.nil ?_ | refine WK.skip ?_ | refine WK.block ?_ | refine WK.exit_here ?_ | refine WK.e1 ?_ | refine WK.e2 ?_ | refine WK.drawnS (id := 4) mixed [] [13] [0, 0, 0, 0, 0, 0, 0, 0, 0, 0, 0, 0, 0, 0, 1] [0, 0, 0, 0, 0, 0, 0, 0, 0, 0, 0, 0, 0, 0, 1] (by decide +kernel) ?_ | refine WK.drawnS (id := 6) mixed [] [15, 17] [0, 0, 0, 0, 0, 0, 0, 0, 0, 0, 0, 0, 0, 0, 0, 0, 1, 1] [0, 0, 1, 1, 1, 0, 0, 0, 0, 0, 0, 0, 0, 0, 0, 0, 1, 1] (by decide +kernel) ?_ | refine DW.nil ?_ | (with_reducible refine IL.wr ?_ ?_; focus exact cW) | (with_reducible refine DW.wr ?_ ?_; focus exact cW) | refine IL.sg ttok ?_ | refine DW.re ttok ?_ | refine DW.rm ttok ?_ | refine DW.bk ttok ?_ | refine DW.nn ?_ | refine DW.nb ?_ | ((first | ((first | refine DW.ag (fun h => ?_) (fun h => ?_) | refine DW.ap (fun h => ?_) (fun h => ?_)); (fail_if_success (focus (simp only [reduceCtorEq] at h)))) | refine WK.cn (fun h => ?_) (fun h => ?_)); all_goals first | (simp only [reduceCtorEq] at h; done) | (simp only [hsA, hsD, hsE, ne_eq] at h; first | done | (exfalso; omega; done) | skip) | skip))
  refine WK.forS 0 (fun k => True) (fun k => ⟨49, [(0, .tr 0 []), (1, ii 0), (2, ii 0), (6, ii 1)], []⟩) ⟨trivial, ?_⟩ (fun k hk ho => absurd hk (by omega)) (fun ho => ?_)
  · (refine Weak.renS [] hfx rfl ?_ ?_ rfl <;> (simp only [go_sem, reduceIte, exists_eq_left', exists_eq_left, Blk.mk.injEq] <;> (try and_intros) <;> first | rfl | omega))
  · repeat' (first | refine WK.seq ?_ | refine WK.reg ?_ | refine IL.nil ?_ | refine WK.skip ?_ | refine WK.block ?_ | refine WK.exit_here ?_ | refine WK.e1 ?_ | refine WK.e2 ?_ | refine WK.drawnS (id := 4) mixed [] [13] [0, 0, 0, 0, 0, 0, 0, 0, 0, 0, 0, 0, 0, 0, 1] [0, 0, 0, 0, 0, 0, 0, 0, 0, 0, 0, 0, 0, 0, 1] (by decide +kernel) ?_ | refine WK.drawnS (id := 6) mixed [] [15, 17] [0, 0, 0, 0, 0, 0, 0, 0, 0, 0, 0, 0, 0, 0, 0, 0, 1, 1] [0, 0, 1, 1, 1, 0, 0, 0, 0, 0, 0, 0, 0, 0, 0, 0, 1, 1] (by decide +kernel) ?_ | refine DW.nil ?_ | (with_reducible refine IL.wr ?_ ?_; focus exact cW) | (with_reducible refine DW.wr ?_ ?_; focus exact cW) | refine IL.sg ttok ?_ | refine DW.re ttok ?_ | refine DW.rm ttok ?_ | refine DW.bk ttok ?_ | refine DW.nn ?_ | refine DW.nb ?_ | ((first | ((first | refine DW.ag (fun h => ?_) (fun h => ?_) | refine DW.ap (fun h => ?_) (fun h => ?_)); (fail_if_success (focus (simp only [reduceCtorEq] at h)))) | refine WK.cn (fun h => ?_) (fun h => ?_)); all_goals first | (simp only [reduceCtorEq] at h; done) | (simp only [hsA, hsD, hsE, ne_eq] at h; first | done | (exfalso; omega; done) | skip) | skip))
    all_goals try ((first | refine WK.ret ⟨.inr rfl, ?_⟩ | refine ⟨.inl rfl, ?_⟩ | refine ⟨.inl trivial, ?_⟩); refine Fin.o ?_ ?_ (h1 := by first | rfl | (simp only [go_sem, show Try.f18.results.toList = [] from rfl, reduceIte] <;> rfl)); rotate_left 1; (focus (first | rfl | skip)); all_goals try with_reducible rfl)
    all_goals skip
theorem pdq_nil : SCall Try.prog 16 [.tr 0 [], ii 0, ii 0, ii 0] (.tup []) [.tr 0 [], ii 0, ii 0, ii 0] := by
  refine SCall.of_body' (TT := TT) (fun _ => false) [false, false, false, false] ttok Try.func16 rfl (Nat.le_of_ble_eq_true rfl) rfl fun fx hfx => WK.top ?_
  simp only [impl, imp, argT, List.append_nil, List.map_nil, List.nil_append, show Try.f16.ntmps = 134 from rfl, Nat.zero_add, Nat.reduceAdd]
  repeat' (first | refine WK.seq ?_ | refine WK.reg ?_ | refine IL.nil ?_ | refine WK.skip ?_ | refine WK.block ?_ | refine WK.exit_here ?_ | refine WK.e1 ?_ | refine WK.e2 ?_ | refine WK.drawnS (id := 17) mixed [] [12] [0, 0, 0, 0, 0, 0, 0, 0, 0, 0, 0, 0, 0, 1, 1] [0, 0, 0, 0, 0, 0, 0, 0, 0, 0, 0, 0, 0, 1, 1] (by decide +kernel) ?_ | refine DW.nil ?_ | (with_reducible refine IL.wr ?_ ?_; focus exact cW) | (with_reducible refine DW.wr ?_ ?_; focus exact cW) | refine IL.sg ttok ?_ | refine IL.nn ?_ | refine DW.re ttok ?_ | refine DW.rm ttok ?_ | refine DW.nn ?_ | refine DW.nb ?_ | refine IL.cS ttok ent16 [.own, .bor, .bor, .bor] false ?_ (hS := by exact hpd) | refine IL.cS ttok ent18 [.bor, .bor, .bor] true ?_ (hS := by exact ins_nil) | ((first | ((first | refine IL.ag (fun h => ?_) (fun h => ?_) | refine DW.ag (fun h => ?_) (fun h => ?_) | refine IL.ap (fun h => ?_) (fun h => ?_) | refine DW.ap (fun h => ?_) (fun h => ?_)); (fail_if_success (focus (simp only [reduceCtorEq] at h)))) | refine WK.cn (fun h => ?_) (fun h => ?_)); all_goals first | (simp only [reduceCtorEq] at h; done) | (simp only [hsA, hsD, hsE, ne_eq] at h; first | done | (exfalso; omega; done) | skip) | skip))
  refine WK.forS 0 (fun k => True) (fun k => ⟨134, [(0, .tr 0 []), (1, ii 0), (2, ii 0), (3, ii 0), (8, .v (.bool true)), (9, .v (.bool true))], []⟩) ⟨trivial, ?_⟩ (fun k hk ho => absurd hk (by omega)) (fun ho => ?_)
  · (refine Weak.renS [] hfx rfl ?_ ?_ rfl <;> (simp only [go_sem, reduceIte, exists_eq_left', exists_eq_left, Blk.mk.injEq] <;> (try and_intros) <;> first | rfl | omega))
  · repeat' (first | refine WK.seq ?_ | refine WK.reg ?_ | refine IL.nil ?_ | refine WK.skip ?_ | refine WK.block ?_ | refine WK.exit_here ?_ | refine WK.e1 ?_ | refine WK.e2 ?_ | refine WK.drawnS (id := 17) mixed [] [12] [0, 0, 0, 0, 0, 0, 0, 0, 0, 0, 0, 0, 0, 1, 1] [0, 0, 0, 0, 0, 0, 0, 0, 0, 0, 0, 0, 0, 1, 1] (by decide +kernel) ?_ | refine DW.nil ?_ | (with_reducible refine IL.wr ?_ ?_; focus exact cW) | (with_reducible refine DW.wr ?_ ?_; focus exact cW) | refine IL.sg ttok ?_ | refine IL.nn ?_ | refine DW.re ttok ?_ | refine DW.rm ttok ?_ | refine DW.nn ?_ | refine DW.nb ?_ | refine IL.cS ttok ent16 [.own, .bor, .bor, .bor] false ?_ (hS := by exact hpd) | refine IL.cS ttok ent18 [.bor, .bor, .bor] true ?_ (hS := by exact ins_nil) | ((first | ((first | refine IL.ag (fun h => ?_) (fun h => ?_) | refine DW.ag (fun h => ?_) (fun h => ?_) | refine IL.ap (fun h => ?_) (fun h => ?_) | refine DW.ap (fun h => ?_) (fun h => ?_)); (fail_if_success (focus (simp only [reduceCtorEq] at h)))) | refine WK.cn (fun h => ?_) (fun h => ?_)); all_goals first | (simp only [reduceCtorEq] at h; done) | (simp only [hsA, hsD, hsE, ne_eq] at h; first | done | (exfalso; omega; done) | skip) | skip))
    all_goals try ((first | refine WK.ret ⟨.inr rfl, ?_⟩ | refine ⟨.inl rfl, ?_⟩ | refine ⟨.inl trivial, ?_⟩); refine Fin.o ?_ ?_ (h1 := by first | rfl | (simp only [go_sem, show Try.f16.results.toList = [] from rfl, reduceIte] <;> rfl)); rotate_left 1; (focus (first | rfl | skip)); all_goals try with_reducible rfl)
    all_goals skip
theorem sort_nil : SCall Try.prog 14 [.tr 0 []] (.tup []) [.tr 0 []] := by
  have hbl := len_call 0 (by decide)
  rw [show (((0 : Nat) : Int)) = 0 from rfl, show (((bitsLen 0 : Nat) : Int)) = 0 from rfl] at hbl
  refine SCall.of_body' (TT := TT) (fun _ => false) [false] ttok Try.func14 rfl (Nat.le_of_ble_eq_true rfl) rfl fun fx hfx => WK.top ?_
  simp only [impl, imp, argT, List.append_nil, List.map_nil, List.nil_append, show Try.f14.ntmps = 11 from rfl, Nat.zero_add, Nat.reduceAdd]
  repeat' (first | refine WK.seq ?_ | refine WK.reg ?_ | refine IL.nil ?_ | (with_reducible refine IL.wr ?_ ?_; focus exact cW) | refine IL.sg ttok ?_ | refine IL.cS ttok ent16 [.bor, .bor, .bor, .bor] true ?_ (hS := by exact pdq_nil) | refine IL.cS ttok ent17 [.bor] true ?_ (hS := by exact hbl))
  all_goals try ((first | refine WK.ret ⟨.inr rfl, ?_⟩ | refine ⟨.inl rfl, ?_⟩ | refine ⟨.inl trivial, ?_⟩); refine Fin.o ?_ ?_ (h1 := by first | rfl | (simp only [go_sem, show Try.f14.results.toList = [] from rfl, reduceIte] <;> rfl)); rotate_left 1; (focus (first | rfl | skip)); all_goals try with_reducible rfl)
  all_goals skip
theorem srtL_perm (K : List Int) : (srtL K).Perm K := List.mergeSort_perm _ _
theorem srtL_len (K : List Int) : (srtL K).length = K.length := (srtL_perm K).length_eq
theorem srtL_sorted (K : List Int) : (srtL K).Pairwise (· ≤ ·) := by
  have := List.pairwise_mergeSort (le := fun x y : Int => decide (x ≤ y)) (fun a b c h1 h2 => by simp at *; omega) (fun a b => by simp; omega) K
  exact this.imp fun h => by simpa using h
end Go.Proofs.Ythneocdjknhgdaa.Su
/- package log: Reply; the reference's Reply. -/
namespace Go.Proofs.Ythneocdjknhgdaa
open Go Go.Lift Go.Maps
set_option maxHeartbeats 4000000
set_option linter.unusedSimpArgs false
set_option linter.unusedVariables false
attribute [local irreducible] WK IL IP IG IW DW

def byL (l : List EnL) (R s : Int) : List UInt8 := match plcL l R s with
  | some i => match l[i]? with
    | some e => e.b
    | none => []
  | none => []
theorem plcL_some {l : List EnL} {R s : Int} {i : Nat} (h : plcL l R s = some i) : ∃ e, l[i]? = some e ∧ nmL e R s := by
  unfold plcL at h
  obtain ⟨hi, h1, _⟩ := List.findIdx?_eq_some_iff_getElem.1 h
  exact ⟨l[i], List.getElem?_eq_getElem hi, by simpa using h1⟩
theorem keptL_mem {l : List EnL} {R F T s : Int} : s ∈ keptL l R F T ↔ (∃ i, plcL l R s = some i) ∧ F ≤ s ∧ s ≤ T := by
  unfold keptL
  simp only [List.mem_map, List.mem_filter]
  constructor
  · rintro ⟨e, ⟨h1, h2⟩, rfl⟩
    unfold gpB at h2
    simp at h2
    refine ⟨?_, h2.2.1, h2.2.2⟩
    cases h : plcL l R e.s with
    | some i => exact ⟨i, rfl⟩
    | none => exact absurd ⟨h2.1, rfl⟩ (plcL_no.1 h e h1)
  · rintro ⟨⟨i, h⟩, h1, h2⟩
    obtain ⟨e, h3, h4, rfl⟩ := plcL_some h
    exact ⟨e, ⟨List.mem_of_getElem? h3, by unfold gpB; simp [h4, h1, h2]⟩, rfl⟩
def outL (l : List EnL) (R F T most : Int) : List (List UInt8) := ((Su.srtL (keptL l R F T)).map (byL l R)).take (min (keptL l R F T).length most.toNat)
theorem reply_call (l : List EnL) (z R F T most : Int) (hl : ∀ e ∈ l, eok e) (hd : Dif l) (hn : l.length < 256) (hb : ∀ e ∈ l, e.b.length ≤ 100000) (hR : rok R) :
    SCall Try.prog 7 [logO l z, gapI R F T, .v (.int .i64 most)] (.own 35 (min (keptL l R F T).length most.toNat) false (encs byC (outL l R F T most))) [logO l z, gapI R F T, .v (.int .i64 most)] := by
  have hKl : (keptL l R F T).length ≤ l.length := by unfold keptL; rw [List.length_map]; exact List.length_filter_le _ _
  by_cases hK : keptL l R F T = []
  · have e1 : outL l R F T most = [] := by unfold outL; rw [hK]; simp
    rw [e1, hK]
    simp only [List.length_nil, Nat.zero_min]
    cases l with
    | nil => exact reply_none0 [] z R F T most (by simp) hK Su.sort_nil
    | cons a l => exact reply_none1 (a :: l) z R F T most _ (ixl (a :: l)) (by omega) hK Su.sort_nil
  · have h0 : 0 < (keptL l R F T).length := List.length_pos_iff.2 hK
    have hne : l ≠ [] := by rintro rfl; exact hK rfl
    unfold logO outL
    rw [mapC_ne hne]
    refine reply_some l z R F T most _ (Su.srtL (keptL l R F T)) ((Su.srtL (keptL l R F T)).map (byL l R)) hl hd (by omega) hR rfl h0 (Su.srtL_len _) (by rw [List.length_map, Su.srtL_len]) (Su.sort_call _ h0 (by omega)) (fun x s hs => ?_)
    have hm : s ∈ keptL l R F T := (Su.srtL_perm _).mem_iff.1 (List.mem_of_getElem? hs)
    obtain ⟨⟨i, hi⟩, _, _⟩ := keptL_mem.1 hm
    obtain ⟨e, he, h4, rfl⟩ := plcL_some hi
    have hem := List.mem_of_getElem? he
    refine ⟨(hl e hem).2, i, e, hi, he, hb e hem, ?_⟩
    rw [List.getElem?_map, hs]
    simp only [Option.map_some]
    unfold byL
    rw [hi]
    simp [he]
def fndL (l : List EnL) (R F : Int) (k : Nat) : List (List UInt8) := (List.range k).filterMap fun j => if (plcL l R (F + (j : Nat))).isSome = true then some (byL l R (F + (j : Nat))) else none
def strC (b : List UInt8) : List IV := [.v (strV b)]
instance : Cells strC 1 := ⟨fun _ => rfl, fun _ => rfl, fun _ => rfl⟩
def gapN (F T : Int) : Nat := (T + 1 - F).toNat
end Go.Proofs.Ythneocdjknhgdaa
/- package log: the two answers are one (plain); the document's example. -/
namespace Go.Proofs.Ythneocdjknhgdaa
open Go Go.Lift Go.Maps
set_option maxHeartbeats 4000000
set_option linter.unusedSimpArgs false
set_option linter.unusedVariables false
attribute [local irreducible] WK IL IP IG IW DW

theorem rise_eq : ∀ {a b : List Int}, a.Pairwise (· < ·) → b.Pairwise (· < ·) → (∀ x, x ∈ a ↔ x ∈ b) → a = b
  | [], [], _, _, _ => rfl
  | [], y :: b, _, _, h => by have := (h y).2 (by simp); simp at this
  | x :: a, [], _, _, h => by have := (h x).1 (by simp); simp at this
  | x :: a, y :: b, ha, hb, h => by
    obtain ⟨a1, a2⟩ := List.pairwise_cons.1 ha
    obtain ⟨b1, b2⟩ := List.pairwise_cons.1 hb
    have e : x = y := by
      have h1 := (h x).1 (by simp)
      have h2 := (h y).2 (by simp)
      rcases List.mem_cons.1 h1 with h1 | h1
      · exact h1
      · rcases List.mem_cons.1 h2 with h2 | h2
        · exact h2.symm
        · have := b1 x h1; have := a1 y h2; omega
    subst e
    rw [rise_eq a2 b2 fun z => ?_]
    constructor
    · intro hz
      rcases List.mem_cons.1 ((h z).1 (List.mem_cons_of_mem _ hz)) with e | hz2
      · subst e; have := a1 z hz; omega
      · exact hz2
    · intro hz
      rcases List.mem_cons.1 ((h z).2 (List.mem_cons_of_mem _ hz)) with e | hz2
      · subst e; have := b1 z hz; omega
      · exact hz2
theorem keptL_nodup {l : List EnL} (hd : Dif l) (R F T : Int) : (keptL l R F T).Nodup := by
  unfold keptL
  rw [List.nodup_iff_pairwise_ne, List.pairwise_map]
  have h2 : (l.filter (gpB R F T)).Pairwise fun a b => ¬ nmL a b.r b.s := List.Pairwise.filter _ hd
  refine List.Pairwise.imp_of_mem (fun {a b} ha hb h e => h ⟨?_, e⟩) h2
  have ha := (List.mem_filter.1 ha).2
  have hb := (List.mem_filter.1 hb).2
  unfold gpB at ha hb
  simp at ha hb
  rw [ha.1, hb.1]
def seqL (l : List EnL) (R F T : Int) : List Int := ((List.range (gapN F T)).map fun j => F + (j : Nat)).filter fun s => (plcL l R s).isSome
theorem seqL_rise (l : List EnL) (R F T : Int) : (seqL l R F T).Pairwise (· < ·) := by
  unfold seqL
  refine List.Pairwise.filter _ ?_
  rw [List.pairwise_map]
  exact List.pairwise_lt_range.imp fun h => by omega
theorem srt_seq {l : List EnL} (hd : Dif l) (R F T : Int) : Su.srtL (keptL l R F T) = seqL l R F T := by
  have h1 := Su.srtL_sorted (keptL l R F T)
  have h2 : (Su.srtL (keptL l R F T)).Nodup := (Su.srtL_perm _).nodup_iff.2 (keptL_nodup hd R F T)
  refine rise_eq ?_ (seqL_rise l R F T) fun x => ?_
  · rw [List.nodup_iff_pairwise_ne] at h2
    exact (h1.and h2).imp fun h => by omega
  · rw [(Su.srtL_perm _).mem_iff, keptL_mem]
    unfold seqL gapN
    simp only [List.mem_filter, List.mem_map, List.mem_range, Option.isSome_iff_exists]
    constructor
    · rintro ⟨h, h3, h4⟩
      exact ⟨⟨(x - F).toNat, by omega, by omega⟩, h⟩
    · rintro ⟨⟨j, hj, rfl⟩, h⟩
      exact ⟨h, by omega, by omega⟩
theorem fnd_seq (l : List EnL) (R F T : Int) : fndL l R F (gapN F T) = (seqL l R F T).map (byL l R) := by
  unfold fndL seqL
  generalize List.range (gapN F T) = rs
  induction rs with
  | nil => rfl
  | cons j rs ih =>
    rw [List.filterMap_cons, List.map_cons, List.filter_cons]
    by_cases h : (plcL l R (F + (j : Nat))).isSome = true
    · simp only [h, if_true]; rw [ih]; rfl
    · simp only [h]; rw [if_neg (by simp), if_neg (by simp)]; exact ih
theorem out_fnd {l : List EnL} (hd : Dif l) (R F T most : Int) : outL l R F T most = (fndL l R F (gapN F T)).take most.toNat := by
  unfold outL
  have h := Su.srtL_len (keptL l R F T)
  rw [fnd_seq, ← srt_seq hd, ← h]
  generalize Su.srtL (keptL l R F T) = S
  rw [show S.length = (S.map (byL l R)).length by simp]
  rw [Nat.min_comm]
  exact (List.take_eq_take_min).symm
theorem outL_len (l : List EnL) (R F T most : Int) : (outL l R F T most).length = min (keptL l R F T).length most.toNat := by
  unfold outL
  rw [List.length_take, List.length_map, Su.srtL_len]
  omega
end Go.Proofs.Ythneocdjknhgdaa
/- package log: the document's example. -/
namespace Go.Proofs.Ythneocdjknhgdaa
open Go Go.Lift Go.Maps
set_option maxHeartbeats 4000000
set_option linter.unusedSimpArgs false
set_option linter.unusedVariables false
attribute [local irreducible] WK IL IP IG IW DW

def aL1 : List EnL := addL [] 1 3 [99]
def aL2 : List EnL := addL aL1 1 1 [97]
theorem aL2_eq : aL2 = [⟨1, 3, [99]⟩, ⟨1, 1, [97]⟩] := rfl
theorem aL2_dif : Dif aL2 := by unfold Dif; rw [aL2_eq]; simp [nmL]
theorem aL2_ok : ∀ e ∈ aL2, eok e := by rw [aL2_eq]; intro e he; simp at he; rcases he with rfl | rfl <;> (unfold eok rok sok; simp)
theorem anchor_reply (z : Int) : SCall Try.prog 7 [logO aL2 z, gapI 1 1 3, .v (.int .i64 5)] (.own 35 2 false (encs byC [[97], [99]])) [logO aL2 z, gapI 1 1 3, .v (.int .i64 5)] := by
  have h := reply_call aL2 z 1 1 3 5 aL2_ok aL2_dif (by decide) (by rw [aL2_eq]; intro e he; simp at he; rcases he with rfl | rfl <;> simp) (by unfold rok; omega)
  have h1 : outL aL2 1 1 3 5 = [[97], [99]] := by rw [out_fnd aL2_dif]; decide +kernel
  have h2 := outL_len aL2 1 1 3 5
  rw [h1] at h2 h
  rw [← h2] at h
  exact h
theorem anchor_call : SCall Try.prog 5 [] (.v (.bool true)) [] := by
  have hp1 := put_new [] 0 1 3 [99] (by simp) List.Pairwise.nil (by unfold rok; omega) (by unfold sok; omega) rfl (by decide) (by decide) (by omega)
  have hp2 := put_new aL1 (0 + (([99] : List UInt8).length : Int)) 1 1 [97] (by intro e he; simp [aL1] at he; subst he; unfold eok rok sok; simp) (by unfold Dif aL1; simp) (by unfold rok; omega) (by unfold sok; omega) rfl (by decide) (by decide) (by decide)
  have hrp := anchor_reply (0 + (([99] : List UInt8).length : Int) + (([97] : List UInt8).length : Int))
  refine SCall.of_body' (TT := TT) (fun _ => false) [] ttok Try.func5 rfl (Nat.le_of_ble_eq_true rfl) rfl fun fx hfx => WK.top ?_
  simp only [impl, imp, argT, List.append_nil, List.map_nil, List.nil_append, show Try.f5.ntmps = 30 from rfl, Nat.zero_add, Nat.reduceAdd]
  repeat' (first | refine WK.seq ?_ | refine WK.reg ?_ | refine IL.nil ?_ | (with_reducible refine IL.wr ?_ ?_; focus exact cW) | refine IL.bytesConst ttok rfl rfl rfl rfl rfl rfl rfl rfl rfl rfl rfl (by decide) (by decide) rfl rfl (by first | decide | simp) (by first | decide | simp) ?_ | refine IL.sg ttok ?_ | refine IL.nn ?_ | refine IL.cS ttok ent6 [.own, .bor, .bor] false ?_ (hS := by first | exact hp1 | exact hp2) | refine IL.cS ttok ent7 [.own, .bor, .bor] false ?_ (hS := by exact hrp) | (((first | refine IL.ag (fun h => ?_) (fun h => ?_) | refine IL.ap (fun h => ?_) (fun h => ?_)); (fail_if_success (focus (simp only [reduceCtorEq] at h)))); all_goals first | (simp only [reduceCtorEq] at h; done) | (simp only [hsA, hsD, hsE, ne_eq] at h; first | done | (exfalso; omega; done) | skip) | skip))
  all_goals try ((first | refine WK.ret ⟨.inr rfl, ?_⟩ | refine ⟨.inl rfl, ?_⟩ | refine ⟨.inl trivial, ?_⟩); refine Fin.o ?_ ?_ (h1 := by first | rfl | (simp only [go_sem, show Try.f5.results.toList = [.tmp 0] from rfl, reduceIte] <;> rfl)); rotate_left 1; (focus (first | rfl | skip)); all_goals try with_reducible rfl)
  all_goals skip
end Go.Proofs.Ythneocdjknhgdaa
/- package log: LogReplies' function. -/
namespace Go.Proofs.Ythneocdjknhgdaa
open Go Go.Lift Go.Maps
set_option maxHeartbeats 8000000
set_option linter.unusedSimpArgs false
set_option linter.unusedVariables false
attribute [local irreducible] WK IL IP IG IW DW

structure PuV where
  r : Int
  s : Int
  b : List UInt8
def puC (p : PuV) : List IV := [.v (.int .u16 p.r), .v (.int .u32 p.s), .tr p.b.length (bcells p.b)]
instance : CellsT puC 3 := ⟨fun _ => rfl, fun _ => rfl⟩
theorem puC_length (p : PuV) : (puC p).length = 3 := rfl
def stp (l : List EnL) (p : PuV) : List EnL := if plcL l p.r p.s = none then addL l p.r p.s p.b else l
def stL (ps : List PuV) : List EnL := ps.foldl stp []
theorem stL_snoc (ps : List PuV) (p : PuV) : stL (ps ++ [p]) = stp (stL ps) p := by unfold stL; rw [List.foldl_append]; rfl
def okP (p : PuV) : Prop := rok p.r ∧ sok p.s
def szL (l : List EnL) : Nat := (l.map (·.b.length)).sum
theorem szL_add (l : List EnL) (r s : Int) (b : List UInt8) : szL (addL l r s b) = szL l + b.length := by simp [szL]
structure Inv (l : List EnL) (n : Nat) : Prop where
  dif : Dif l
  ok : ∀ e ∈ l, eok e
  bl : ∀ e ∈ l, e.b.length ≤ 500
  len : l.length ≤ n
  sz : szL l ≤ 500 * n
theorem Inv.step {l : List EnL} {n : Nat} {p : PuV} (h : Inv l n) (h1 : okP p) (h2 : p.b.length ≤ 500) : Inv (stp l p) (n + 1) := by
  unfold stp
  split
  · rename_i hp
    refine ⟨?_, ?_, ?_, ?_, ?_⟩
    · unfold Dif addL
      rw [List.pairwise_append]
      refine ⟨h.dif, by simp, fun a ha b hb => ?_⟩
      simp at hb
      subst hb
      exact plcL_no.1 hp a ha
    · intro e he
      rcases List.mem_append.1 he with he | he
      · exact h.ok e he
      · simp at he; subst he; exact h1
    · intro e he
      rcases List.mem_append.1 he with he | he
      · exact h.bl e he
      · simp at he; subst he; exact h2
    · have := h.len; rw [addL_len]; omega
    · have := h.sz; rw [szL_add]; omega
  · have := h.len; have := h.sz
    exact ⟨h.dif, h.ok, h.bl, by omega, by omega⟩
theorem inv_nil : Inv [] 0 := ⟨List.Pairwise.nil, by simp, by simp, by simp, by simp [szL]⟩
theorem stp_ne {l : List EnL} {p : PuV} : stp l p ≠ [] := by
  unfold stp
  split
  · simp
  · rename_i h; rintro rfl; exact h rfl
theorem stL_take {ps : List PuV} {k : Nat} {p : PuV} (h : ps[k]? = some p) : stL (ps.take (k + 1)) = stp (stL (ps.take k)) p := by
  rw [List.take_add_one, h]; exact stL_snoc _ _
theorem stL_ne {ps : List PuV} {k : Nat} (h : k < ps.length) : stL (ps.take (k + 1)) ≠ [] := by
  rw [stL_take (List.getElem?_eq_getElem h)]; exact stp_ne
theorem inv_take {ps : List PuV} (hp : ∀ p ∈ ps, okP p) : ∀ k, k ≤ ps.length → (∀ p ∈ ps.take k, p.b.length ≤ 500) → Inv (stL (ps.take k)) k
  | 0, _, _ => by simpa [stL] using inv_nil
  | k + 1, hk, h => by
    have hx : ps[k]? = some ps[k] := List.getElem?_eq_getElem (by omega)
    have ht : ps.take (k + 1) = ps.take k ++ [ps[k]] := by rw [List.take_add_one, hx]; rfl
    rw [stL_take hx]
    refine Inv.step (inv_take hp k (by omega) fun p hq => h p (by rw [ht]; exact List.mem_append_left _ hq)) (hp _ (List.getElem_mem _)) (h _ (by rw [ht]; exact List.mem_append_right _ (List.mem_singleton.2 rfl)))
end Go.Proofs.Ythneocdjknhgdaa
/- package log: the iterator that All hands back; All itself. -/
namespace Go.Proofs.Ythneocdjknhgdaa
open Go Go.RowKit Go.Lift
attribute [local go_sem] Oper.semAt_some

abbrev itrX (l : List EnL) : List (List IV) := l.map fun e => [.agg [.v (.int .u16 e.r), .v (.int .u32 e.s)], .tr e.b.length (bcells e.b)]
def LogPre (l : List EnL) (B dB g d gr cap : Nat) (W : World) : Prop := W.cell? ⟨B, dB, none⟩ = some (.pointer (some ⟨g, d, none⟩)) ∧ ∃ s, W.cell? ⟨g, d + 1, none⟩ = some s ∧
  ((l = [] ∧ ∃ a c, s = .slice a 0 c) ∨ l ≠ [] ∧ s = .slice (some ⟨gr, 0, none⟩) l.length cap ∧ ∀ (j : Nat) (e : EnL), l[j]? = some e → W.cell? ⟨gr, j * 3, none⟩ = some (.int .u16 e.r) ∧ W.cell? ⟨gr, j * 3 + 1, none⟩ = some (.int .u32 e.s) ∧ W.cell? ⟨gr, j * 3 + 2, none⟩ = some (strV e.b))
theorem bytes_new {wr w1 : World} (hf : Fr wr w1 []) (e : EnL) (T c : Nat) (hc : e.b.length ≤ c) (hlt : wr.heap.size ≤ w1.heap.size) :
    Fr wr ((w1.alloc (.cells (bytesRow ⟨e.b.toArray⟩ c) T ((bytesRow ⟨e.b.toArray⟩ c).size, (bytesRow ⟨e.b.toArray⟩ c).size + 1))).drew) [] ∧
    TRs (fun b => wr.heap.size ≤ b ∧ b < ((w1.alloc (.cells (bytesRow ⟨e.b.toArray⟩ c) T ((bytesRow ⟨e.b.toArray⟩ c).size, (bytesRow ⟨e.b.toArray⟩ c).size + 1))).drew).heap.size) ((w1.alloc (.cells (bytesRow ⟨e.b.toArray⟩ c) T ((bytesRow ⟨e.b.toArray⟩ c).size, (bytesRow ⟨e.b.toArray⟩ c).size + 1))).drew)
      [.agg [.v (.int .u16 e.r), .v (.int .u32 e.s)], .tr e.b.length (bcells e.b)] [.agg #[.int .u16 e.r, .int .u32 e.s], .slice (some ⟨w1.heap.size, 0, none⟩) e.b.length c] := by
  refine ⟨(hf.trans (Fr.alloc_nil w1 _) fun b o ⟨r, hr, _⟩ => by simp at hr).trans (Fr.drew _ []) fun b o ⟨r, hr, _⟩ => by simp at hr, rfl, fun i x y hx hy => ?_⟩
  match i with
  | 0 =>
    simp at hx hy; subst hx; subst hy
    unfold TR
    refine ⟨_, rfl, TRl.of_get rfl fun i x y hx hy => ?_⟩
    match i with
    | 0 => simp at hx hy; subst hx; subst hy; exact ⟨by unfold TR; rfl, rfl⟩
    | 1 => simp at hx hy; subst hx; subst hy; exact ⟨by unfold TR; rfl, rfl⟩
    | i + 2 => simp at hx
  | 1 =>
    simp at hx hy; subst hx; subst hy
    unfold TR
    refine ⟨_, _, rfl, hc, .inr ⟨w1.heap.size, 0, rfl, ⟨hlt, by simp [World.drew]⟩, TRm.of_get fun j x hx => ?_⟩⟩
    have hh : ((w1.alloc (.cells (bytesRow ⟨e.b.toArray⟩ c) T ((bytesRow ⟨e.b.toArray⟩ c).size, (bytesRow ⟨e.b.toArray⟩ c).size + 1))).drew).heap[w1.heap.size]? = some (.cells (bytesRow ⟨e.b.toArray⟩ c) T ((bytesRow ⟨e.b.toArray⟩ c).size, (bytesRow ⟨e.b.toArray⟩ c).size + 1)) := heap_alloc_at w1 _
    unfold bcells at hx
    rw [List.getElem?_map, Option.map_eq_some_iff] at hx
    obtain ⟨b, h1, rfl⟩ := hx
    refine ⟨.int .u8 b.toNat, ?_, by simp [TR], rfl⟩
    rw [Nat.zero_add, cell_of_row _ w1.heap.size j _ _ _ hh]
    have hj := (List.getElem?_eq_some_iff.1 h1).1
    simp only [bytesRow]
    rw [Array.getElem?_append, if_pos (by simpa using hj)]
    simp [h1]
  | i + 2 => simp at hx
set_option maxRecDepth 100000 in
set_option maxHeartbeats 4000000 in
theorem iter_log (l : List EnL) (hl : l.length ≤ 100000) (B dB g d gr cap : Nat) : IterC Try.prog 15 [.pointer (some ⟨B, dB, none⟩)] (itrX l) (LogPre l B dB g d gr cap) := by
  intro lp J Jx W hP hG hY h0
  refine callsIn_of_wp Try.func15 rfl trivial ?_ rfl
  simp only [Try.ntmps15, List.size_toArray, List.length_cons, List.length_nil, Nat.reduceAdd, Nat.reduceSub, Array.replicate_succ, Array.replicate_zero, List.push_toArray, List.append_toArray, List.nil_append, List.cons_append]
  obtain ⟨p1, s, p2, p3⟩ := hP 0 W h0
  rcases p3 with ⟨rfl, a, c, rfl⟩ | ⟨p5, rfl, p4⟩
  · gi_wp2
    gi_loopw [10] (fun i wr => i = .int .i64 0 ∧ J 0 wr) (fun _ _ => 0)
    case atStart => exact ⟨rfl, h0⟩
    case round =>
      obtain ⟨rfl, hJs⟩ := hrel
      gi_wp2
      go_end0
      exact ⟨⟨_, rfl⟩, .inl hJs⟩
  · gi_wp2
    gi_loopw [10] (fun i wr => ∃ k : Nat, k ≤ l.length ∧ i = .int .i64 k ∧ J k wr) (fun i _ => l.length - (intOf i).toNat)
    case atStart => exact ⟨0, Nat.zero_le _, rfl, h0⟩
    case round =>
      obtain ⟨k, hk, rfl, hJs⟩ := hrel
      by_cases hlt : k < l.length
      · obtain ⟨_, _, _, q3⟩ := hP k wr hJs
        have hx : l[k]? = some l[k] := List.getElem?_eq_getElem hlt
        have hxx : (itrX l)[k]? = some [.agg [.v (.int .u16 l[k].r), .v (.int .u32 l[k].s)], .tr l[k].b.length (bcells l[k].b)] := by simp [hlt]
        generalize l[k] = e at *
        obtain ⟨e0, e1, e2⟩ : wr.cell? ⟨gr, k * 3, none⟩ = some (.int .u16 e.r) ∧ wr.cell? ⟨gr, k * 3 + 1, none⟩ = some (.int .u32 e.s) ∧ wr.cell? ⟨gr, k * 3 + 2, none⟩ = some (strV e.b) := by
          rcases q3 with ⟨rfl, _⟩ | ⟨_, _, h2⟩
          · simp at hlt
          · exact h2 k e hx
        have hcv := fun w => run_bytes_of_string (P := Try.prog) w 9 35 5 ⟨e.b.toArray⟩ Try.underlying9 Try.underlying35 Try.underlying5
        obtain ⟨w1, hw1⟩ : ∃ w1, wr.alloc (.cells #[.int .u16 e.r, .int .u32 e.s, .string ⟨e.b.toArray⟩] 57) = w1 := ⟨_, rfl⟩
        have hs1 : w1.heap.size = wr.heap.size + 1 := by rw [← hw1]; simp
        obtain ⟨hf, hy⟩ := bytes_new (wr := wr) (w1 := w1) (hw1 ▸ Fr.alloc_nil wr _) e 5 (grownCap w1 e.b.length 0 5) (grownCap_ge w1 e.b.length 0 5) (by rw [hs1]; omega)
        obtain ⟨fn, tmps, assign, body, hy, hR⟩ := hY k _ wr _ _ hJs hxx hf hy
        rw [hs1] at hy
        subst hw1
        clear hs1 hf
        gi_wp2
        refine ⟨rfl, hR.mono ?_⟩
        rintro e' W3 (⟨rfl, hJ3⟩ | ⟨rfl, hJx3⟩)
        · gi_wp2
          go_roundw
          case rel => exact ⟨k + 1, by omega, by simp, hJ3⟩
          case measure => simp [intOf]; omega
        · gi_wp2
          refine bodyPost_ret (results_none rfl _ _ _) rfl ?_
          exact ⟨⟨_, rfl⟩, .inr hJx3⟩
      · obtain rfl : k = l.length := by omega
        gi_wp2
        go_end0
        exact ⟨⟨_, rfl⟩, .inl (by simpa using hJs)⟩
set_option maxHeartbeats 1000000 in
theorem all_run (q : Option Addr) (w : World) : CallsIn Fence.wide 0 Try.prog 13 #[.pointer q] w fun e w' => e = .returned (.func (.func 15) #[] #[.pointer (some ⟨w.heap.size, 0, none⟩)]) ∧ w' = w.alloc (.cells #[.pointer q] 54) := by
  refine callsIn_of_wp Try.func13 rfl trivial ?_ rfl
  simp only [Try.ntmps13, List.size_toArray, List.length_cons, List.length_nil, Nat.reduceAdd, Nat.reduceSub, Array.replicate_succ, Array.replicate_zero, List.push_toArray, List.append_toArray, List.nil_append, List.cons_append]
  gi_wp2
  go_ret
  exact ⟨rfl, rfl⟩
theorem iter_lift {fx : Fx} (N : Nat) (l : List EnL) (hl : l.length ≤ 100000) (S : Nat → List (Option Blk)) (m kb kl kr off : Nat) (hm : kb < m ∧ kl < m ∧ kr < m) (hb : ∀ k, ∃ b, (S k)[kb]? = some (some b) ∧ (b.row = false ∧ b.fl = false ∧ b.ver = 0) ∧ b.cs = [.ptr kl 0 off])
    (ho : ∀ k, ∃ b, (S k)[kl]? = some (some b) ∧ (b.row = false ∧ b.fl = false ∧ b.ver = 0) ∧ b.cs[off + 1]? = some (.sl kr 0 0 l.length)) (hr : ∀ k, ∃ b, (S k)[kr]? = some (some b) ∧ (b.row = true ∧ b.ver = 0) ∧ b.cs = encs entC l) :
    ∀ cx0 W0 lb, VXl cx0 W0 [.ptr kb 0 0] lb → Mem Try.prog fx cx0 ⟨N, [], S 0⟩ W0 → ∃ Pre, IterC Try.prog 15 lb (itrX l) Pre ∧ ∀ k cx W, Mem Try.prog fx cx ⟨N, [], S k⟩ W → (∀ j p, j < m → cx0.pl j 0 = some p → cx.pl j 0 = some p) → Pre W := by
  intro cx0 W0 lb hv hm0
  obtain ⟨bb, b1, ⟨b2, b3, b4⟩, b5⟩ := hb 0
  obtain ⟨bo, o1, ⟨o2, o3, o4⟩, o5⟩ := ho 0
  obtain ⟨br, r1, ⟨r2, r3⟩, r4⟩ := hr 0
  obtain ⟨pb, pb1, pb2⟩ := hm0.blk kb bb b1
  obtain ⟨po, po1, po2⟩ := hm0.blk kl bo o1
  obtain ⟨pr, pr1, pr2⟩ := hm0.blk kr br r1
  rw [b4] at pb1; rw [o4] at po1; rw [r3] at pr1
  obtain ⟨_, pb2⟩ := pb2.ofObj b2 b3
  obtain ⟨_, po2⟩ := po2.ofObj o2 o3
  obtain ⟨B, dB, arrB, TB, vB, _⟩ := pb2.ex
  obtain ⟨g, d, arrO, TO, vO, _⟩ := po2.ex
  obtain ⟨y, ys, rfl, hv1, hv2⟩ : ∃ y ys, lb = y :: ys ∧ VX cx0 W0 (.ptr kb 0 0) y ∧ VXl cx0 W0 [] ys := by unfold VXl at hv; exact hv
  unfold VXl at hv2; subst hv2
  have hptr : ∀ {cx : Cx} {W : World} {k o gg dd : Nat} {p : Plc} {y : Value}, VX cx W (.ptr k 0 o) y → cx.pl k 0 = some p → p.v = .pointer (some ⟨gg, dd, none⟩) → y = .pointer (some ⟨gg, dd + o, none⟩) := by
    intro cx W k o gg dd p y h h1 h2
    unfold VX at h
    obtain ⟨p', e1, e2⟩ := h
    rw [h1] at e1; cases e1
    exact e2.addr (.inl h2)
  have hy := hptr hv1 pb1 vB
  subst hy
  obtain ⟨gr, cap, hgr⟩ : ∃ gr cap, l ≠ [] → pr.v = .slice (some ⟨gr, 0, none⟩) br.n cap := by
    rcases (pr2.ofRow r2).v with ⟨_, _, e⟩ | ⟨gr, cap, cur, e, _⟩
    · refine ⟨0, 0, fun h => ?_⟩
      rw [r4] at e
      cases l with
      | nil => exact absurd rfl h
      | cons a l => rw [encs_cons] at e; simp [entC] at e
    · exact ⟨gr, cap, fun _ => e⟩
  refine ⟨_, iter_log l hl B (dB + 0) g (d + off) gr cap, fun k cx W hmk hpl => ?_⟩
  obtain ⟨bb', c1, ⟨c2, c3, c4⟩, c5⟩ := hb k
  obtain ⟨bo', e1, ⟨e2, e3, e4⟩, e5⟩ := ho k
  obtain ⟨br', f1, ⟨f2, f3⟩, f4⟩ := hr k
  have q1 := hpl kb pb hm.1 pb1
  have q2 := hpl kl po hm.2.1 po1
  have q3 := hpl kr pr hm.2.2 pr1
  obtain ⟨pb', x1, x2⟩ := hmk.blk kb bb' c1
  obtain ⟨po', y1, y2⟩ := hmk.blk kl bo' e1
  obtain ⟨pr', z1, z2⟩ := hmk.blk kr br' f1
  rw [c4, q1] at x1; rw [e4, q2] at y1; rw [f3, q3] at z1
  cases x1; cases y1; cases z1
  obtain ⟨_, x2⟩ := x2.ofObj c2 c3
  obtain ⟨_, y2⟩ := y2.ofObj e2 e3
  obtain ⟨B', dB', arr1, T1, v1, h1, h2, h3⟩ := x2.ex
  rw [vB] at v1; cases v1
  obtain ⟨g', d', arr2, T2, v2, h4, h5, h6⟩ := y2.ex
  rw [vO] at v2; cases v2
  obtain ⟨u, u1, u2, _⟩ := h3 0 _ (by rw [c5]; rfl)
  have hu := hptr u2 q2 vO
  subst hu
  obtain ⟨s, s1, s2, _⟩ := h6 (off + 1) _ e5
  refine ⟨by rw [cell_of_row W B _ arr1 T1 _ h1]; exact u1, s, by rw [cell_of_row W g _ arr2 T2 _ h4]; rw [Nat.add_assoc]; exact s1, ?_⟩
  by_cases hle : l = []
  · subst hle
    refine .inl ⟨rfl, ?_⟩
    unfold VX at s2
    obtain ⟨p', _, s2⟩ := s2
    rcases s2 with ⟨_, ⟨a, rfl⟩, _⟩ | ⟨_, _, c, ad, _, rfl, _⟩
    · exact ⟨a, 0, rfl⟩
    · exact ⟨_, _, rfl⟩
  · have hpos : 0 < l.length := List.length_pos_iff.2 hle
    unfold VX at s2
    obtain ⟨p', e, s2⟩ := s2
    rw [q3] at e; cases e
    rcases s2 with ⟨_, _, _, e⟩ | ⟨gr', m', cap', ad, w1, rfl, _, w3⟩
    · omega
    · rw [hgr hle] at w1; cases w1
      have := w3 (.inl hpos)
      subst this
      refine .inr ⟨hle, by simp, fun j e hj => ?_⟩
      rcases (z2.ofRow f2).v with ⟨e', _⟩ | ⟨gr2, cap2, cur, e', t1, _, _, _, t2, _⟩
      · rw [hgr hle] at e'; cases e'
      · have e2 := (hgr hle).symm.trans e'
        simp only [Value.slice.injEq, Option.some.injEq, Addr.mk.injEq] at e2
        obtain ⟨⟨rfl, _⟩, _, rfl⟩ := e2
        have hat := encs_at (f := entC) (n := 3) (fun _ => rfl) hj
        rw [f4] at t2
        have key : ∀ i x, i < 3 → (entC e)[i]? = some (.v x) → W.cell? ⟨gr, j * 3 + i, none⟩ = some x := fun i x hi hx => by
          have h1 : (encs entC l)[j * 3 + i]? = some (.v x) := by
            have := congrArg (fun l => l[i]?) hat
            simp only [List.getElem?_take, List.getElem?_drop, if_pos hi] at this
            rw [this]; exact hx
          obtain ⟨y, g1, g2, _⟩ := t2.get _ _ h1
          unfold TR at g2; subst g2
          rw [List.getElem?_take] at g1
          split at g1
          · rw [cell_of_row W gr _ cur _ _ t1]; simpa using g1
          · cases g1
        exact ⟨by have := key 0 _ (by omega) rfl; simpa using this, key 1 _ (by omega) rfl, key 2 _ (by omega) rfl⟩
end Go.Proofs.Ythneocdjknhgdaa
/- package log: LogKeeps' function (under way). -/
namespace Go.Proofs.Ythneocdjknhgdaa
open Go Go.Lift Go.Maps
set_option maxHeartbeats 8000000
set_option linter.unusedSimpArgs false
set_option linter.unusedVariables false
attribute [local irreducible] WK IL IP IG IW DW

abbrev kS (R N stop : Int) (mv : IV) (mb : Blk) (l : List EnL) (k : Nat) : List (Option Blk) := [some ⟨false, 0, 1, false, [.v (.int .u16 R), .v (.int .u32 N)], 0, false⟩, some ⟨false, 0, 1, false, [.v (.int .i64 stop)], 0, false⟩, some ⟨false, 0, 1, false, [.v (.bool false)], 0, false⟩, some ⟨false, 0, 1, false, [mv, .sl 7 0 0 l.length, .v (.int .i64 (szL l : Nat))], 0, false⟩,
  some ⟨true, 41, l.length, true, encs entC l, 0, false⟩, some ⟨false, 0, 1, false, [.sl 4 0 0 l.length], 0, false⟩, some mb, some ⟨true, 57, l.length, true, encs entC l, 0, false⟩, some ⟨false, 0, 1, false, [.v (.int .i64 (k : Int))], 0, false⟩, some ⟨false, 0, 1, false, [.ptr 3 0 0], 0, false⟩]
abbrev kT : List (Nat × IV) := [(5, .ptr 1 0 0), (6, .ptr 2 0 0), (8, .ptr 5 0 0), (16, .ptr 8 0 0)]
abbrev kE (l : List EnL) (k : Nat) : EnL := l[k]?.getD ⟨0, 0, []⟩
abbrev kM (R N stop : Int) (mv : IV) (mb : Blk) (l : List EnL) (k : Nat) : St := ⟨165, [(18, .tr (kE l k).b.length (bcells (kE l k).b)), (17, .ptr 10 0 0), (120, .agg [.v (.int .u16 (kE l k).r), .v (.int .u32 (kE l k).s)]), (121, .tr (kE l k).b.length (bcells (kE l k).b))] ++ kT, kS R N stop mv mb l k ++ [some ⟨false, 34, 1, false, [.v (.int .u16 (kE l k).r), .v (.int .u32 (kE l k).s)], 0, false⟩]⟩
theorem keeps_call (ps : List PuV) (R N stop : Int) (hp : ∀ p ∈ ps, okP p) (hR : rok R) (hN : sok N) :
    SCall Try.prog 4 [.tr ps.length (encs puC ps), idI R N, .v (.int .i64 stop)] (.v (.bool true)) [.tr ps.length (encs puC ps), idI R N, .v (.int .i64 stop)] := by
  by_cases h200 : (ps.length : Int) > 200
  · have g1 : decide ((ps.length : Int) > 200) = true := decide_eq_true h200
    refine SCall.of_body' (TT := TT) (fun _ => false) [false, false, false] ttok Try.func4 rfl (Nat.le_of_ble_eq_true rfl) rfl fun fx hfx => WK.top ?_
    simp only [impl, imp, argT, List.append_nil, List.map_nil, List.nil_append, show Try.f4.ntmps = 165 from rfl, Nat.zero_add, Nat.reduceAdd]
    have FX := g1
    repeat' (first | refine WK.seq ?_ | refine WK.reg ?_ | refine IL.nil ?_ | refine WK.skip ?_ | refine WK.block ?_ | refine WK.exit_here ?_ | refine WK.e1 ?_ | refine WK.e2 ?_ | refine WK.drawnS (id := 24) mixed [3, 4, 5, 8, 9, 10, 11, 12, 13, 14, 15, 16] [27, 33] [0, 0, 0, 0, 0, 0, 0, 0, 0, 0, 0, 0, 0, 0, 0, 0, 0, 0, 0, 0, 0, 0, 0, 0, 0, 0, 0, 0, 0, 0, 1, 1, 1, 1, 1, 2, 2] [0, 0, 0, 0, 0, 0, 0, 0, 0, 0, 0, 0, 0, 0, 0, 0, 0, 0, 0, 0, 0, 0, 0, 0, 0, 0, 0, 0, 1, 1, 1, 1, 1, 1, 2, 2, 2] (by decide +kernel) ?_ | refine DW.nil ?_ | (with_reducible refine IL.wr ?_ ?_; focus exact cW) | (with_reducible refine DW.wr ?_ ?_; focus exact cW) | refine IL.sgF ttok ?_ | refine DW.reF ttok ?_ | refine DW.rmF ttok ?_ | refine DW.nn ?_ | refine DW.nb ?_ | refine IL.cSF ttok ent5 [] true ?_ (hS := by exact anchor_call) | refine IL.cSF ttok ent6 [.own, .bor, .bor] false ?_ (hS := by exact hput) | refine IL.cSF ttok ent9 [.bor, .bor, .bor] true ?_ (hS := by exact hat) | refine IL.cSF ttok ent10 [.own, .bor] false ?_ (hS := by exact hge) | refine DW.cSF ttok ent11 [.own] false ?_ (hS := by exact hlc) | refine DW.cSF ttok ent12 [.own] false ?_ (hS := by exact hsc) | ((first | ((first | refine DW.ag (fun h => ?_) (fun h => ?_) | refine DW.ap (fun h => ?_) (fun h => ?_)); (fail_if_success (focus (simp only [reduceCtorEq] at h)))) | refine WK.cn (fun h => ?_) (fun h => ?_)); all_goals first | (simp only [reduceCtorEq] at h; done) | (simp only [hsA, hsD, hsE, ne_eq] at h; first | done | (exfalso; omega; done) | skip) | skip))
    all_goals try ((first | refine WK.ret ⟨.inr rfl, ?_⟩ | refine ⟨.inl rfl, ?_⟩ | refine ⟨.inl trivial, ?_⟩); refine Fin.o ?_ ?_ (h1 := by first | rfl | (simp only [go_sem, show Try.f4.results.toList = [.cell 6 4] from rfl, reduceIte] <;> rfl)); rotate_left 1; (focus (first | rfl | skip)); all_goals try with_reducible rfl)
    all_goals skip
  · have g1 : decide ((ps.length : Int) > 200) = false := decide_eq_false h200
    refine SCall.of_bodyR (TT := TT) (fun _ => false) [false, false, false] ttok Try.func4 rfl (Nat.le_of_ble_eq_true rfl) rfl fun fx hrd hfx => WK.top ?_
    simp only [impl, imp, argT, List.append_nil, List.map_nil, List.map_cons, List.nil_append, List.cons_append, List.length_cons, List.length_nil, show Try.f4.ntmps = 165 from rfl, Nat.zero_add, Nat.reduceAdd]
    have FX := g1
    repeat' (first | refine WK.seq ?_ | refine WK.reg ?_ | refine IL.nil ?_ | refine WK.skip ?_ | refine WK.block ?_ | refine WK.exit_here ?_ | refine WK.e1 ?_ | refine WK.e2 ?_ | refine WK.drawnS (id := 24) mixed [3, 4, 5, 8, 9, 10, 11, 12, 13, 14, 15, 16] [27, 33] [0, 0, 0, 0, 0, 0, 0, 0, 0, 0, 0, 0, 0, 0, 0, 0, 0, 0, 0, 0, 0, 0, 0, 0, 0, 0, 0, 0, 0, 0, 1, 1, 1, 1, 1, 2, 2] [0, 0, 0, 0, 0, 0, 0, 0, 0, 0, 0, 0, 0, 0, 0, 0, 0, 0, 0, 0, 0, 0, 0, 0, 0, 0, 0, 0, 1, 1, 1, 1, 1, 1, 2, 2, 2] (by decide +kernel) ?_ | refine DW.nil ?_ | (with_reducible refine IL.wr ?_ ?_; focus exact cW) | (with_reducible refine DW.wr ?_ ?_; focus exact cW) | refine IL.sgF ttok ?_ | refine DW.reF ttok ?_ | refine DW.rmF ttok ?_ | refine DW.nn ?_ | refine DW.nb ?_ | refine IL.cSF ttok ent5 [] true ?_ (hS := by exact anchor_call) | refine IL.cSF ttok ent6 [.own, .bor, .bor] false ?_ (hS := by exact hput) | refine IL.cSF ttok ent9 [.bor, .bor, .bor] true ?_ (hS := by exact hat) | refine IL.cSF ttok ent10 [.own, .bor] false ?_ (hS := by exact hge) | refine DW.cSF ttok ent11 [.own] false ?_ (hS := by exact hlc) | refine DW.cSF ttok ent12 [.own] false ?_ (hS := by exact hsc) | ((first | ((first | refine DW.ag (fun h => ?_) (fun h => ?_) | refine DW.ap (fun h => ?_) (fun h => ?_)); (fail_if_success (focus (simp only [reduceCtorEq] at h)))) | refine WK.cn (fun h => ?_) (fun h => ?_)); all_goals first | (simp only [reduceCtorEq] at h; done) | (simp only [hsA, hsD, hsE, ne_eq] at h; first | done | (exfalso; omega; done) | skip) | skip))
    refine WK.forS ps.length (fun k => ∀ p ∈ ps.take k, p.b.length ≤ 500) (fun k => match k with | 0 => ⟨165, [(0, .tr ps.length (encs puC ps)), (4, .ptr 0 0 0), (5, .ptr 1 0 0), (6, .ptr 2 0 0), (7, .ptr 4 0 0), (8, .ptr 6 0 0), (9, .v (.int .i64 0)), (24, .tr ps.length (encs puC ps)), (25, .v (.int .i64 ps.length)), (26, .v (.int .i64 0))], [some ⟨false, 0, 1, false, [.v (.int .u16 R), .v (.int .u32 N)], 0, false⟩, some ⟨false, 0, 1, false, [.v (.int .i64 stop)], 0, false⟩, some ⟨false, 0, 1, false, [.v (.bool false)], 0, false⟩, some ⟨true, 57, 0, true, [], 0, false⟩, some ⟨false, 0, 1, false, [.v (.map none), .sl 3 0 0 0, .v (.int .i64 0)], 0, false⟩, some ⟨true, 41, 0, true, [], 0, false⟩, some ⟨false, 0, 1, false, [.sl 5 0 0 0], 0, false⟩]⟩ | j + 1 => ⟨165, [(0, .tr ps.length (encs puC ps)), (4, .ptr 0 0 0), (5, .ptr 1 0 0), (6, .ptr 2 0 0), (7, .ptr 3 0 0), (8, .ptr 7 0 0), (9, .v (.int .i64 (szL (stL (ps.take (j + 1))) : Nat))), (24, .tr ps.length (encs puC ps)), (25, .v (.int .i64 ps.length)), (26, .v (.int .i64 ((j + 1 : Nat) : Int)))], [some ⟨false, 0, 1, false, [.v (.int .u16 R), .v (.int .u32 N)], 0, false⟩, some ⟨false, 0, 1, false, [.v (.int .i64 stop)], 0, false⟩, some ⟨false, 0, 1, false, [.v (.bool false)], 0, false⟩, some ⟨false, 0, 1, false, [.mp 4 0, .sl 5 0 0 (stL (ps.take (j + 1))).length, .v (.int .i64 (szL (stL (ps.take (j + 1))) : Nat))], 0, false⟩, some ⟨false, 28, (ixl (stL (ps.take (j + 1)))).length, true, mcs (ixl (stL (ps.take (j + 1)))), 0, false⟩, some ⟨true, 57, (stL (ps.take (j + 1))).length, true, encs entC (stL (ps.take (j + 1))), 0, false⟩, some ⟨true, 41, (stL (ps.take (j + 1))).length, true, encs entC (stL (ps.take (j + 1))), 0, false⟩, some ⟨false, 0, 1, false, [.sl 6 0 0 (stL (ps.take (j + 1))).length], 0, false⟩]⟩) ⟨by simp, ?_⟩ (fun k hk ho => ?_) (fun ho => ?_)
    · dsimp only
      (refine Weak.renS [0, 1, 2, 3, 4, 5, 6] hfx rfl ?_ ?_ rfl <;> (simp only [go_sem, reduceIte, exists_eq_left', exists_eq_left, Blk.mk.injEq] <;> (try and_intros) <;> first | rfl | omega))
    · have hx : ps[k]? = some ps[k] := List.getElem?_eq_getElem hk
      have hle : k * 3 + 3 ≤ ps.length * 3 := by omega
      have hat0 : ((encs puC ps).drop (k * 3)).take 3 = [.v (.int .u16 ps[k].r), .v (.int .u32 ps[k].s), .tr ps[k].b.length (bcells ps[k].b)] := encs_at puC_length hx
      have hne : encs puC ps ≠ [] := encs_ne puC_length (by decide) hx
      have htk : ps.take (k + 1) = ps.take k ++ [ps[k]] := by rw [List.take_add_one, hx]; rfl
      have hinv := inv_take hp k (by omega) ho
      have hst := stL_take hx
      have hokp := hp _ (List.getElem_mem hk)
      have ho2 : ps[k].b.length ≤ 500 → ∀ p ∈ ps.take (k + 1), p.b.length ≤ 500 := fun h p hq => by
        rw [htk] at hq
        rcases List.mem_append.1 hq with hq | hq
        · exact ho p hq
        · simp at hq; subst hq; exact h
      clear htk
      generalize hpk : ps[k] = p at *
      cases k with
      | zero =>
        dsimp only
        have hat1 : (encs puC ps).take 3 = [.v (.int .u16 p.r), .v (.int .u32 p.s), .tr p.b.length (bcells p.b)] := by simpa using hat0
        have hle : 3 ≤ ps.length * 3 := by omega
        by_cases hb : (p.b.length : Int) > 500
        · have g5 : decide ((p.b.length : Int) > 500) = true := decide_eq_true hb
          have FX := And.intro hat1 (And.intro hle g5)
          repeat' (first | refine WK.seq ?_ | refine WK.reg ?_ | refine IL.nil ?_ | refine WK.skip ?_ | refine WK.block ?_ | refine WK.exit_here ?_ | refine WK.e1 ?_ | refine WK.e2 ?_ | refine WK.drawnS (id := 24) mixed [3, 4, 5, 8, 9, 10, 11, 12, 13, 14, 15, 16] [27, 33] [0, 0, 0, 0, 0, 0, 0, 0, 0, 0, 0, 0, 0, 0, 0, 0, 0, 0, 0, 0, 0, 0, 0, 0, 0, 0, 0, 0, 0, 0, 1, 1, 1, 1, 1, 2, 2] [0, 0, 0, 0, 0, 0, 0, 0, 0, 0, 0, 0, 0, 0, 0, 0, 0, 0, 0, 0, 0, 0, 0, 0, 0, 0, 0, 0, 1, 1, 1, 1, 1, 1, 2, 2, 2] (by decide +kernel) ?_ | refine DW.nil ?_ | (with_reducible refine IL.wr ?_ ?_; focus exact cW) | (with_reducible refine DW.wr ?_ ?_; focus exact cW) | refine IL.sgF ttok ?_ | refine DW.reF ttok ?_ | refine DW.rmF ttok ?_ | refine DW.nn ?_ | refine DW.nb ?_ | refine IL.cSF ttok ent5 [] true ?_ (hS := by exact anchor_call) | refine IL.cSF ttok ent6 [.own, .bor, .bor] false ?_ (hS := by exact hput) | refine IL.cSF ttok ent9 [.bor, .bor, .bor] true ?_ (hS := by exact hat) | refine IL.cSF ttok ent10 [.own, .bor] false ?_ (hS := by exact hge) | refine DW.cSF ttok ent11 [.own] false ?_ (hS := by exact hlc) | refine DW.cSF ttok ent12 [.own] false ?_ (hS := by exact hsc) | ((first | ((first | refine DW.ag (fun h => ?_) (fun h => ?_) | refine DW.ap (fun h => ?_) (fun h => ?_)); (fail_if_success (focus (simp only [reduceCtorEq] at h)))) | refine WK.cn (fun h => ?_) (fun h => ?_)); all_goals first | (simp only [reduceCtorEq] at h; done) | (simp only [hsA, hsD, hsE, ne_eq] at h; first | done | (exfalso; omega; done) | skip) | skip))
          all_goals try ((first | refine WK.ret ⟨.inr rfl, ?_⟩ | refine ⟨.inl rfl, ?_⟩ | refine ⟨.inl trivial, ?_⟩); refine Fin.o ?_ ?_ (h1 := by first | rfl | (simp only [go_sem, show Try.f4.results.toList = [.cell 6 4] from rfl, reduceIte] <;> rfl)); rotate_left 1; (focus (first | rfl | skip)); all_goals try with_reducible rfl)
          all_goals skip
        · have g5 : decide ((p.b.length : Int) > 500) = false := decide_eq_false hb
          have hput := put_none 0 p.r p.s p.b hokp.1 hokp.2 (by omega) (by omega)
          have hat := at_call [] p.r p.s (by decide)
          rw [show atL [] p.r p.s = -1 from rfl] at hat
          have FX := And.intro hat1 (And.intro hle g5)
          repeat' (first | refine WK.seq ?_ | refine WK.reg ?_ | refine IL.nil ?_ | refine WK.skip ?_ | refine WK.block ?_ | refine WK.exit_here ?_ | refine WK.e1 ?_ | refine WK.e2 ?_ | refine WK.drawnS (id := 24) mixed [3, 4, 5, 8, 9, 10, 11, 12, 13, 14, 15, 16] [27, 33] [0, 0, 0, 0, 0, 0, 0, 0, 0, 0, 0, 0, 0, 0, 0, 0, 0, 0, 0, 0, 0, 0, 0, 0, 0, 0, 0, 0, 0, 0, 1, 1, 1, 1, 1, 2, 2] [0, 0, 0, 0, 0, 0, 0, 0, 0, 0, 0, 0, 0, 0, 0, 0, 0, 0, 0, 0, 0, 0, 0, 0, 0, 0, 0, 0, 1, 1, 1, 1, 1, 1, 2, 2, 2] (by decide +kernel) ?_ | refine DW.nil ?_ | (with_reducible refine IL.wr ?_ ?_; focus exact cW) | (with_reducible refine DW.wr ?_ ?_; focus exact cW) | refine IL.sgF ttok ?_ | refine DW.reF ttok ?_ | refine DW.rmF ttok ?_ | refine DW.nn ?_ | refine DW.nb ?_ | refine IL.cSF ttok ent5 [] true ?_ (hS := by exact anchor_call) | refine IL.cSF ttok ent6 [.own, .bor, .bor] false ?_ (hS := by exact hput) | refine IL.cSF ttok ent9 [.bor, .bor, .bor] true ?_ (hS := by exact hat) | refine IL.cSF ttok ent10 [.own, .bor] false ?_ (hS := by exact hge) | refine DW.cSF ttok ent11 [.own] false ?_ (hS := by exact hlc) | refine DW.cSF ttok ent12 [.own] false ?_ (hS := by exact hsc) | ((first | ((first | refine DW.ag (fun h => ?_) (fun h => ?_) | refine DW.ap (fun h => ?_) (fun h => ?_)); (fail_if_success (focus (simp only [reduceCtorEq] at h)))) | refine WK.cn (fun h => ?_) (fun h => ?_)); all_goals first | (simp only [reduceCtorEq] at h; done) | (simp only [hsA, hsD, hsE, ne_eq] at h; first | done | (exfalso; omega; done) | skip) | skip))
          have hst1 : stL (ps.take (0 + 1)) = [⟨p.r, p.s, p.b⟩] := by rw [hst]; rfl
          have e1 : encs entC [⟨p.r, p.s, p.b⟩] = [.v (.int .u16 p.r), .v (.int .u32 p.s), .v (strV p.b)] := rfl
          have e2 : ((szL [⟨p.r, p.s, p.b⟩] : Nat) : Int) = 0 + (p.b.length : Int) := by simp [szL]
          have e3 : ((0 + 1 : Nat) : Int) = 0 + 1 := rfl
          have e4 : ([⟨p.r, p.s, p.b⟩] : List EnL).length = 1 := rfl
          refine ⟨ho2 (by omega), ?_⟩
          rw [hst1]
          (refine Weak.renS [0, 1, 2, 4, 9, 10, 5, 6] hfx rfl ?_ ?_ rfl <;> (simp only [go_sem, reduceIte, exists_eq_left', exists_eq_left, Blk.mk.injEq, e1, e2, e3, e4] <;> (try and_intros) <;> first | rfl | omega))
      | succ j =>
        dsimp only
        have hln0 := stL_ne (ps := ps) (k := j) (by omega)
        have hkk : ((j + 1 + 1 : Nat) : Int) = ((j + 1 : Nat) : Int) + 1 := by omega
        have hjb : j + 1 ≤ 200 := by omega
        generalize stL (ps.take (j + 1 + 1)) = l2 at *
        generalize stL (ps.take (j + 1)) = l at *
        have hlz := hinv.sz
        have hll := hinv.len
        by_cases hb : (p.b.length : Int) > 500
        · have g5 : decide ((p.b.length : Int) > 500) = true := decide_eq_true hb
          generalize j + 1 = k at *
          have FX := And.intro hat0 (And.intro hle g5)
          repeat' (first | refine WK.seq ?_ | refine WK.reg ?_ | refine IL.nil ?_ | refine WK.skip ?_ | refine WK.block ?_ | refine WK.exit_here ?_ | refine WK.e1 ?_ | refine WK.e2 ?_ | refine WK.drawnS (id := 24) mixed [3, 4, 5, 8, 9, 10, 11, 12, 13, 14, 15, 16] [27, 33] [0, 0, 0, 0, 0, 0, 0, 0, 0, 0, 0, 0, 0, 0, 0, 0, 0, 0, 0, 0, 0, 0, 0, 0, 0, 0, 0, 0, 0, 0, 1, 1, 1, 1, 1, 2, 2] [0, 0, 0, 0, 0, 0, 0, 0, 0, 0, 0, 0, 0, 0, 0, 0, 0, 0, 0, 0, 0, 0, 0, 0, 0, 0, 0, 0, 1, 1, 1, 1, 1, 1, 2, 2, 2] (by decide +kernel) ?_ | refine DW.nil ?_ | (with_reducible refine IL.wr ?_ ?_; focus exact cW) | (with_reducible refine DW.wr ?_ ?_; focus exact cW) | refine IL.sgF ttok ?_ | refine DW.reF ttok ?_ | refine DW.rmF ttok ?_ | refine DW.nn ?_ | refine DW.nb ?_ | refine IL.cSF ttok ent5 [] true ?_ (hS := by exact anchor_call) | refine IL.cSF ttok ent6 [.own, .bor, .bor] false ?_ (hS := by exact hput) | refine IL.cSF ttok ent9 [.bor, .bor, .bor] true ?_ (hS := by exact hat) | refine IL.cSF ttok ent10 [.own, .bor] false ?_ (hS := by exact hge) | refine DW.cSF ttok ent11 [.own] false ?_ (hS := by exact hlc) | refine DW.cSF ttok ent12 [.own] false ?_ (hS := by exact hsc) | ((first | ((first | refine DW.ag (fun h => ?_) (fun h => ?_) | refine DW.ap (fun h => ?_) (fun h => ?_)); (fail_if_success (focus (simp only [reduceCtorEq] at h)))) | refine WK.cn (fun h => ?_) (fun h => ?_)); all_goals first | (simp only [reduceCtorEq] at h; done) | (simp only [hsA, hsD, hsE, ne_eq] at h; first | done | (exfalso; omega; done) | skip) | skip))
          all_goals try ((first | refine WK.ret ⟨.inr rfl, ?_⟩ | refine ⟨.inl rfl, ?_⟩ | refine ⟨.inl trivial, ?_⟩); refine Fin.o ?_ ?_ (h1 := by first | rfl | (simp only [go_sem, show Try.f4.results.toList = [.cell 6 4] from rfl, reduceIte] <;> rfl)); rotate_left 1; (focus (first | rfl | skip)); all_goals try with_reducible rfl)
          all_goals skip
        · have g5 : decide ((p.b.length : Int) > 500) = false := decide_eq_false hb
          have ho3 := ho2 (by omega)
          have hat := at_call l p.r p.s (by omega)
          by_cases hpl : plcL l p.r p.s = none
          · have hput := put_some l (szL l : Nat) p.r p.s p.b hinv.ok hinv.dif hokp.1 hokp.2 hln0 hpl (by omega) (by omega) (by omega)
            rw [show atL l p.r p.s = -1 by unfold atL; rw [hpl]] at hat
            unfold stp at hst
            rw [if_pos hpl] at hst
            rw [← hst] at hput
            have hln : l2.length = l.length + 1 := by rw [hst]; simp
            have hcs : (encs entC l).take (l.length * 3) ++ [.v (.int .u16 p.r), .v (.int .u32 p.s), .v (strV p.b)] = encs entC l2 := by
              rw [List.take_of_length_le (by rw [encs_length entC_length]; omega), hst, addL_encs]
            have hcs2 : encs entC l ++ [.v (.int .u16 p.r), .v (.int .u32 p.s), .v (strV p.b)] = encs entC l2 := by rw [hst, addL_encs]
            have hz : ((szL l : Nat) : Int) + (p.b.length : Int) = ((szL l2 : Nat) : Int) := by rw [hst, szL_add]; omega
            clear hst
            generalize j + 1 = k at *
            have FX := And.intro hat0 (And.intro hle g5)
            repeat' (first | refine WK.seq ?_ | refine WK.reg ?_ | refine IL.nil ?_ | refine WK.skip ?_ | refine WK.block ?_ | refine WK.exit_here ?_ | refine WK.e1 ?_ | refine WK.e2 ?_ | refine WK.drawnS (id := 24) mixed [3, 4, 5, 8, 9, 10, 11, 12, 13, 14, 15, 16] [27, 33] [0, 0, 0, 0, 0, 0, 0, 0, 0, 0, 0, 0, 0, 0, 0, 0, 0, 0, 0, 0, 0, 0, 0, 0, 0, 0, 0, 0, 0, 0, 1, 1, 1, 1, 1, 2, 2] [0, 0, 0, 0, 0, 0, 0, 0, 0, 0, 0, 0, 0, 0, 0, 0, 0, 0, 0, 0, 0, 0, 0, 0, 0, 0, 0, 0, 1, 1, 1, 1, 1, 1, 2, 2, 2] (by decide +kernel) ?_ | refine DW.nil ?_ | (with_reducible refine IL.wr ?_ ?_; focus exact cW) | (with_reducible refine DW.wr ?_ ?_; focus exact cW) | refine IL.sgF ttok ?_ | refine DW.reF ttok ?_ | refine DW.rmF ttok ?_ | refine DW.nn ?_ | refine DW.nb ?_ | refine IL.cSF ttok ent5 [] true ?_ (hS := by exact anchor_call) | refine IL.cSF ttok ent6 [.own, .bor, .bor] false ?_ (hS := by exact hput) | refine IL.cSF ttok ent9 [.bor, .bor, .bor] true ?_ (hS := by exact hat) | refine IL.cSF ttok ent10 [.own, .bor] false ?_ (hS := by exact hge) | refine DW.cSF ttok ent11 [.own] false ?_ (hS := by exact hlc) | refine DW.cSF ttok ent12 [.own] false ?_ (hS := by exact hsc) | ((first | ((first | refine DW.ag (fun h => ?_) (fun h => ?_) | refine DW.ap (fun h => ?_) (fun h => ?_)); (fail_if_success (focus (simp only [reduceCtorEq] at h)))) | refine WK.cn (fun h => ?_) (fun h => ?_)); all_goals first | (simp only [reduceCtorEq] at h; done) | (simp only [hsA, hsD, hsE, ne_eq] at h; first | done | (exfalso; omega; done) | skip) | skip))
            refine ⟨ho3, ?_⟩
            (refine Weak.renS [0, 1, 2, 3, 10, 11, 6, 7] hfx rfl ?_ ?_ rfl <;> (simp only [go_sem, reduceIte, exists_eq_left', exists_eq_left, Blk.mk.injEq, hln, hcs, hcs2, hz, hkk] <;> (try and_intros) <;> first | rfl | omega))
          · obtain ⟨ix, hix⟩ := Option.ne_none_iff_exists'.1 hpl
            have hput := put_twice l (szL l : Nat) p.r p.s p.b ix hinv.ok hinv.dif hokp.1 hokp.2 hix
            rw [show atL l p.r p.s = (ix : Nat) by unfold atL; rw [hix]] at hat
            have gi : decide (((ix : Nat) : Int) ≥ 0) = true := decide_eq_true (by omega)
            unfold stp at hst
            rw [if_neg hpl] at hst
            subst hst
            generalize j + 1 = k at *
            have FX := And.intro hat0 (And.intro hle (And.intro g5 gi))
            repeat' (first | refine WK.seq ?_ | refine WK.reg ?_ | refine IL.nil ?_ | refine WK.skip ?_ | refine WK.block ?_ | refine WK.exit_here ?_ | refine WK.e1 ?_ | refine WK.e2 ?_ | refine WK.drawnS (id := 24) mixed [3, 4, 5, 8, 9, 10, 11, 12, 13, 14, 15, 16] [27, 33] [0, 0, 0, 0, 0, 0, 0, 0, 0, 0, 0, 0, 0, 0, 0, 0, 0, 0, 0, 0, 0, 0, 0, 0, 0, 0, 0, 0, 0, 0, 1, 1, 1, 1, 1, 2, 2] [0, 0, 0, 0, 0, 0, 0, 0, 0, 0, 0, 0, 0, 0, 0, 0, 0, 0, 0, 0, 0, 0, 0, 0, 0, 0, 0, 0, 1, 1, 1, 1, 1, 1, 2, 2, 2] (by decide +kernel) ?_ | refine DW.nil ?_ | (with_reducible refine IL.wr ?_ ?_; focus exact cW) | (with_reducible refine DW.wr ?_ ?_; focus exact cW) | refine IL.sgF ttok ?_ | refine DW.reF ttok ?_ | refine DW.rmF ttok ?_ | refine DW.nn ?_ | refine DW.nb ?_ | refine IL.cSF ttok ent5 [] true ?_ (hS := by exact anchor_call) | refine IL.cSF ttok ent6 [.own, .bor, .bor] false ?_ (hS := by exact hput) | refine IL.cSF ttok ent9 [.bor, .bor, .bor] true ?_ (hS := by exact hat) | refine IL.cSF ttok ent10 [.own, .bor] false ?_ (hS := by exact hge) | refine DW.cSF ttok ent11 [.own] false ?_ (hS := by exact hlc) | refine DW.cSF ttok ent12 [.own] false ?_ (hS := by exact hsc) | ((first | ((first | refine DW.ag (fun h => ?_) (fun h => ?_) | refine DW.ap (fun h => ?_) (fun h => ?_)); (fail_if_success (focus (simp only [reduceCtorEq] at h)))) | refine WK.cn (fun h => ?_) (fun h => ?_)); all_goals first | (simp only [reduceCtorEq] at h; done) | (simp only [hsA, hsD, hsE, ne_eq] at h; first | done | (exfalso; omega; done) | skip) | skip))
            refine ⟨ho3, ?_⟩
            (refine Weak.renS [0, 1, 2, 3, 10, 11, 6, 7] hfx rfl ?_ ?_ rfl <;> (simp only [go_sem, reduceIte, exists_eq_left', exists_eq_left, Blk.mk.injEq, hkk] <;> (try and_intros) <;> first | rfl | omega))
    · rw [List.take_length] at ho
      have hinv := inv_take hp ps.length (Nat.le_refl _) (by rw [List.take_length]; exact ho)
      rw [List.take_length] at hinv
      generalize hn : ps.length = n at *
      have hq1 : (!(false == decide ((-1 : Int) ≥ 0))) = false := by decide
      have hq2 : (((0 : Nat) : Int) != 0) = false := rfl
      cases n
      case' zero =>
        dsimp only
        obtain rfl : ps = [] := List.length_eq_zero_iff.1 hn
        have hge := get_nil 0 R N hR hN
        have hlc := len_call [] 0
        have hsc := size_call [] 0
        have hat := at_call [] R N (by decide)
        rw [show atL [] R N = -1 from rfl] at hat
        change SCall _ _ [.obj [.v (.map none), .own 57 0 true [], .v (.int .i64 0)]] _ [.obj [.v (.map none), .own 57 0 true [], .v (.int .i64 0)]] at hlc hsc
        have FX := And.intro hq1 hq2
        repeat' (first | refine WK.seq ?_ | refine WK.reg ?_ | refine IL.nil ?_ | refine WK.skip ?_ | refine WK.block ?_ | refine WK.exit_here ?_ | refine WK.e1 ?_ | refine WK.e2 ?_ | refine WK.drawnS (id := 24) mixed [3, 4, 5, 8, 9, 10, 11, 12, 13, 14, 15, 16] [27, 33] [0, 0, 0, 0, 0, 0, 0, 0, 0, 0, 0, 0, 0, 0, 0, 0, 0, 0, 0, 0, 0, 0, 0, 0, 0, 0, 0, 0, 0, 0, 1, 1, 1, 1, 1, 2, 2] [0, 0, 0, 0, 0, 0, 0, 0, 0, 0, 0, 0, 0, 0, 0, 0, 0, 0, 0, 0, 0, 0, 0, 0, 0, 0, 0, 0, 1, 1, 1, 1, 1, 1, 2, 2, 2] (by decide +kernel) ?_ | refine DW.nil ?_ | (with_reducible refine IL.wr ?_ ?_; focus exact cW) | (with_reducible refine DW.wr ?_ ?_; focus exact cW) | refine IL.sgF ttok ?_ | refine DW.reF ttok ?_ | refine DW.rmF ttok ?_ | refine DW.nn ?_ | refine DW.nb ?_ | refine IL.cSF ttok ent5 [] true ?_ (hS := by exact anchor_call) | refine IL.cSF ttok ent6 [.own, .bor, .bor] false ?_ (hS := by exact hput) | refine IL.cSF ttok ent9 [.bor, .bor, .bor] true ?_ (hS := by exact hat) | refine IL.cSF ttok ent10 [.own, .bor] false ?_ (hS := by exact hge) | refine DW.cSF ttok ent11 [.own] false ?_ (hS := by exact hlc) | refine DW.cSF ttok ent12 [.own] false ?_ (hS := by exact hsc) | ((first | ((first | refine DW.ag (fun h => ?_) (fun h => ?_) | refine DW.ap (fun h => ?_) (fun h => ?_)); (fail_if_success (focus (simp only [reduceCtorEq] at h)))) | refine WK.cn (fun h => ?_) (fun h => ?_)); all_goals first | (simp only [reduceCtorEq] at h; done) | (simp only [hsA, hsD, hsE, ne_eq] at h; first | done | (exfalso; omega; done) | skip) | skip))
        refine IL.callBox all_run ent13 ?_
        refine IL.nil ?_
        refine WK.weak (σ' := ⟨165, (119, .fn (.func 15) [.ptr 9 0 0]) :: kT, kS R N stop (.v (.map none)) ⟨true, 5, 0, true, [], 0, false⟩ [] 0⟩) ?_ ?_
        · (refine Weak.renS [0, 1, 2, 4, 5, 6, 7, 10, 11, 12] hfx rfl ?_ ?_ rfl <;> (simp only [go_sem, reduceIte, exists_eq_left', exists_eq_left, Blk.mk.injEq] <;> (try and_intros) <;> first | rfl | omega))
        obtain ⟨l, hl, hl5⟩ : ∃ l : List EnL, l = [] ∧ l.length ≤ 100000 := ⟨[], rfl, by decide⟩
        rw [← hl]
        obtain ⟨mv, mb, hmb, h1, h2⟩ : ∃ (mv : IV) (mb : Blk), ((mv = .v (.map none) ∧ mb = ⟨true, 5, 0, true, [], 0, false⟩) ∨ (mv = .mp 6 0 ∧ mb = ⟨false, 28, (ixl l).length, true, mcs (ixl l), 0, false⟩)) ∧ mv = .v (.map none) ∧ mb = ⟨true, 5, 0, true, [], 0, false⟩ := ⟨_, _, .inl ⟨rfl, rfl⟩, rfl, rfl⟩
        rw [← h1, ← h2]
        clear h1 h2
      case' succ j =>
        dsimp only
        have hne := stL_ne (ps := ps) (k := j) (by omega)
        rw [List.take_of_length_le (by omega)] at hne
        rw [show stL (ps.take (j + 1)) = stL ps by rw [List.take_of_length_le (by omega)]]
        have hll := hinv.len
        have hlc := len_call (stL ps) (szL (stL ps) : Nat)
        have hsc := size_call (stL ps) (szL (stL ps) : Nat)
        unfold logO at hlc hsc
        rw [mapC_ne hne] at hlc hsc
        generalize stL ps = l at *
        have hat := at_call l R N (by omega)
        generalize j + 1 = n at *
        have hb1 : ((l.length : Int) != (l.length : Int)) = false := by simp
        have hb2 : (((szL l : Nat) : Int) != ((szL l : Nat) : Int)) = false := by simp
        cases hpl : plcL l R N
        case' none =>
          have hge := get_miss l (szL l : Nat) R N hinv.ok hinv.dif hR hN hpl
          rw [show atL l R N = -1 by unfold atL; rw [hpl]] at hat
          have FX := And.intro hb1 (And.intro hb2 (And.intro hq1 hq2))
          repeat' (first | refine WK.seq ?_ | refine WK.reg ?_ | refine IL.nil ?_ | refine WK.skip ?_ | refine WK.block ?_ | refine WK.exit_here ?_ | refine WK.e1 ?_ | refine WK.e2 ?_ | refine WK.drawnS (id := 24) mixed [3, 4, 5, 8, 9, 10, 11, 12, 13, 14, 15, 16] [27, 33] [0, 0, 0, 0, 0, 0, 0, 0, 0, 0, 0, 0, 0, 0, 0, 0, 0, 0, 0, 0, 0, 0, 0, 0, 0, 0, 0, 0, 0, 0, 1, 1, 1, 1, 1, 2, 2] [0, 0, 0, 0, 0, 0, 0, 0, 0, 0, 0, 0, 0, 0, 0, 0, 0, 0, 0, 0, 0, 0, 0, 0, 0, 0, 0, 0, 1, 1, 1, 1, 1, 1, 2, 2, 2] (by decide +kernel) ?_ | refine DW.nil ?_ | (with_reducible refine IL.wr ?_ ?_; focus exact cW) | (with_reducible refine DW.wr ?_ ?_; focus exact cW) | refine IL.sgF ttok ?_ | refine DW.reF ttok ?_ | refine DW.rmF ttok ?_ | refine DW.nn ?_ | refine DW.nb ?_ | refine IL.cSF ttok ent5 [] true ?_ (hS := by exact anchor_call) | refine IL.cSF ttok ent6 [.own, .bor, .bor] false ?_ (hS := by exact hput) | refine IL.cSF ttok ent9 [.bor, .bor, .bor] true ?_ (hS := by exact hat) | refine IL.cSF ttok ent10 [.own, .bor] false ?_ (hS := by exact hge) | refine DW.cSF ttok ent11 [.own] false ?_ (hS := by exact hlc) | refine DW.cSF ttok ent12 [.own] false ?_ (hS := by exact hsc) | ((first | ((first | refine DW.ag (fun h => ?_) (fun h => ?_) | refine DW.ap (fun h => ?_) (fun h => ?_)); (fail_if_success (focus (simp only [reduceCtorEq] at h)))) | refine WK.cn (fun h => ?_) (fun h => ?_)); all_goals first | (simp only [reduceCtorEq] at h; done) | (simp only [hsA, hsD, hsE, ne_eq] at h; first | done | (exfalso; omega; done) | skip) | skip))
          refine IL.callBox all_run ent13 ?_
          refine IL.nil ?_
          refine WK.weak (σ' := ⟨165, (119, .fn (.func 15) [.ptr 9 0 0]) :: kT, kS R N stop (.mp 6 0) ⟨false, 28, (ixl l).length, true, mcs (ixl l), 0, false⟩ l 0⟩) ?_ ?_
          · (refine Weak.renS [0, 1, 2, 3, 6, 7, 13, 14, 15, 16] hfx rfl ?_ ?_ rfl <;> (simp only [go_sem, reduceIte, exists_eq_left', exists_eq_left, Blk.mk.injEq] <;> (try and_intros) <;> first | rfl | omega))
          obtain ⟨mv, mb, hmb, h1, h2⟩ : ∃ (mv : IV) (mb : Blk), ((mv = .v (.map none) ∧ mb = ⟨true, 5, 0, true, [], 0, false⟩) ∨ (mv = .mp 6 0 ∧ mb = ⟨false, 28, (ixl l).length, true, mcs (ixl l), 0, false⟩)) ∧ mv = .mp 6 0 ∧ mb = ⟨false, 28, (ixl l).length, true, mcs (ixl l), 0, false⟩ := ⟨_, _, .inr ⟨rfl, rfl⟩, rfl, rfl⟩
          rw [← h1, ← h2]
          clear h1 h2
          have hl5 : l.length ≤ 100000 := by omega
        case' some i =>
          have hil := plcL_lt hpl
          have hei : l[i]? = some l[i] := List.getElem?_eq_getElem hil
          have hge := get_hit l (szL l : Nat) R N i l[i] hinv.ok hinv.dif hR hN hpl hei (by have := hinv.bl _ (List.getElem_mem hil); omega)
          rw [show atL l R N = (i : Nat) by unfold atL; rw [hpl]] at hat
          have hq3 : (!(true == decide (((i : Nat) : Int) ≥ 0))) = false := by rw [decide_eq_true (by omega)]; rfl
          have hq4 : (encs entC l)[i * 3 + 2]? = some (.v (strV l[i].b)) := encs_get entC_length hei (by decide)
          have hq5 : (!((⟨l[i].b.toArray⟩ : ByteArray).toList == (⟨l[i].b.toArray⟩ : ByteArray).toList)) = false := by simp
          have hle : i * 3 + 3 ≤ l.length * 3 := by omega
          have FX := And.intro hb1 (And.intro hb2 (And.intro hq3 (And.intro hq4 (And.intro hq5 hle))))
          repeat' (first | refine WK.seq ?_ | refine WK.reg ?_ | refine IL.nil ?_ | refine WK.skip ?_ | refine WK.block ?_ | refine WK.exit_here ?_ | refine WK.e1 ?_ | refine WK.e2 ?_ | refine WK.drawnS (id := 24) mixed [3, 4, 5, 8, 9, 10, 11, 12, 13, 14, 15, 16] [27, 33] [0, 0, 0, 0, 0, 0, 0, 0, 0, 0, 0, 0, 0, 0, 0, 0, 0, 0, 0, 0, 0, 0, 0, 0, 0, 0, 0, 0, 0, 0, 1, 1, 1, 1, 1, 2, 2] [0, 0, 0, 0, 0, 0, 0, 0, 0, 0, 0, 0, 0, 0, 0, 0, 0, 0, 0, 0, 0, 0, 0, 0, 0, 0, 0, 0, 1, 1, 1, 1, 1, 1, 2, 2, 2] (by decide +kernel) ?_ | refine DW.nil ?_ | (with_reducible refine IL.wr ?_ ?_; focus exact cW) | (with_reducible refine DW.wr ?_ ?_; focus exact cW) | refine IL.sgF ttok ?_ | refine DW.reF ttok ?_ | refine DW.rmF ttok ?_ | refine DW.nn ?_ | refine DW.nb ?_ | refine IL.cSF ttok ent5 [] true ?_ (hS := by exact anchor_call) | refine IL.cSF ttok ent6 [.own, .bor, .bor] false ?_ (hS := by exact hput) | refine IL.cSF ttok ent9 [.bor, .bor, .bor] true ?_ (hS := by exact hat) | refine IL.cSF ttok ent10 [.own, .bor] false ?_ (hS := by exact hge) | refine DW.cSF ttok ent11 [.own] false ?_ (hS := by exact hlc) | refine DW.cSF ttok ent12 [.own] false ?_ (hS := by exact hsc) | ((first | ((first | refine DW.ag (fun h => ?_) (fun h => ?_) | refine DW.ap (fun h => ?_) (fun h => ?_)); (fail_if_success (focus (simp only [reduceCtorEq] at h)))) | refine WK.cn (fun h => ?_) (fun h => ?_)); all_goals first | (simp only [reduceCtorEq] at h; done) | (simp only [hsA, hsD, hsE, ne_eq] at h; first | done | (exfalso; omega; done) | skip) | skip))
          refine IL.callBox all_run ent13 ?_
          refine IL.nil ?_
          refine WK.weak (σ' := ⟨165, (119, .fn (.func 15) [.ptr 9 0 0]) :: kT, kS R N stop (.mp 6 0) ⟨false, 28, (ixl l).length, true, mcs (ixl l), 0, false⟩ l 0⟩) ?_ ?_
          · (refine Weak.renS [0, 1, 2, 3, 6, 7, 12, 13, 14, 15] hfx rfl ?_ ?_ rfl <;> (simp only [go_sem, reduceIte, exists_eq_left', exists_eq_left, Blk.mk.injEq] <;> (try and_intros) <;> first | rfl | omega))
          obtain ⟨mv, mb, hmb, h1, h2⟩ : ∃ (mv : IV) (mb : Blk), ((mv = .v (.map none) ∧ mb = ⟨true, 5, 0, true, [], 0, false⟩) ∨ (mv = .mp 6 0 ∧ mb = ⟨false, 28, (ixl l).length, true, mcs (ixl l), 0, false⟩)) ∧ mv = .mp 6 0 ∧ mb = ⟨false, 28, (ixl l).length, true, mcs (ixl l), 0, false⟩ := ⟨_, _, .inr ⟨rfl, rfl⟩, rfl, rfl⟩
          rw [← h1, ← h2]
          clear h1 h2
          have hl5 : l.length ≤ 100000 := by omega
      all_goals
        repeat' (first | refine WK.seq ?_ | refine WK.block ?_)
        have hmk : ∀ (k : Nat) (x : List IV), (itrX l)[k]? = some x → ∃ e, l[k]? = some e ∧ kE l k = e ∧ x = [.agg [.v (.int .u16 e.r), .v (.int .u32 e.s)], .tr e.b.length (bcells e.b)] := fun k x hx => by
          rw [List.getElem?_map, Option.map_eq_some_iff] at hx
          obtain ⟨e, h1, rfl⟩ := hx
          exact ⟨e, h1, by unfold kE; rw [h1]; rfl, rfl⟩
        refine WK.rangeFunc (xs := itrX l) 10 kT (kS R N stop mv mb l) (kM R N stop mv mb l) (fun id L => id = 2 ∧ ∃ k : Nat, L = kS R N stop mv mb l k ∧ (k : Int) = stop) hrd rfl ent15 (fun k h => by have := hfx k h; cases this) rfl (by simp [AllT, lk]) rfl (by decide) (fun p hp => by simp at hp; rcases hp with rfl | rfl <;> exact Nat.le_of_ble_eq_true rfl) (fun x hx => ?_) (iter_lift _ l hl5 _ 10 9 3 7 0 ⟨by decide, by decide, by decide⟩ (fun k => ⟨_, rfl, ⟨rfl, rfl, rfl⟩, rfl⟩) (fun k => ⟨_, rfl, ⟨rfl, rfl, rfl⟩, rfl⟩) (fun k => ⟨_, rfl, ⟨rfl, rfl⟩, rfl⟩)) ?_ ?_ (fun k x fx' hx hfx' => ?_) (fun k x fx' hx hfx' => ?_) ?_ ?_
        · obtain ⟨e, _, rfl⟩ := List.mem_map.1 hx; rfl
        · intro k j b hb
          rcases j with _ | _ | _ | _ | _ | _ | _ | _ | _ | _ | j <;> simp [kS] at hb <;> subst hb <;> first | rfl | (rcases hmb with ⟨_, rfl⟩ | ⟨_, rfl⟩ <;> rfl)
        · intro k j b hb
          rcases j with _ | _ | _ | _ | _ | _ | _ | _ | _ | _ | _ | j <;> simp [kS] at hb <;> subst hb <;> first | rfl | (rcases hmb with ⟨_, rfl⟩ | ⟨_, rfl⟩ <;> rfl)
        · obtain ⟨e, h1, h2, rfl⟩ := hmk k x hx
          unfold kM
          rw [h2]
          repeat' (first | refine WK.seq ?_ | refine WK.reg ?_ | refine IL.nil ?_ | refine IL.sg ttok ?_)
          rfl
        · obtain ⟨e, h1, h2, rfl⟩ := hmk k x hx
          have hkl : k < l.length := (List.getElem?_eq_some_iff.1 h1).1
          have c1 : decide ((k : Int) ≥ (l.length : Int)) = false := decide_eq_false (by omega)
          have c2 : (encs entC l)[k * 3]? = some (.v (.int .u16 e.r)) := encs_get (j := 0) entC_length h1 (by decide)
          have c3 : (encs entC l)[k * 3 + 1]? = some (.v (.int .u32 e.s)) := encs_get (j := 1) entC_length h1 (by decide)
          have c4 : (encs entC l)[k * 3 + 2]? = some (.v (strV e.b)) := encs_get (j := 2) entC_length h1 (by decide)
          have c5 : k * 3 + 3 ≤ l.length * 3 := by omega
          simp only [kM, h2, kS, kT, List.cons_append, List.nil_append]
          have FX := And.intro c1 (And.intro c2 (And.intro c3 (And.intro c4 c5)))
          repeat' (first | refine WK.seq ?_ | refine WK.reg ?_ | refine IL.nil ?_ | refine WK.skip ?_ | refine WK.block ?_ | refine WK.exit_here ?_ | refine WK.e1 ?_ | refine WK.e2 ?_ | refine WK.drawnS (id := 30) mixed [3, 4, 5, 8, 9, 10, 11, 12, 13, 14, 15, 16] [] [] [] (by decide +kernel) ?_ | refine DW.nil ?_ | (with_reducible refine IL.wr ?_ ?_; focus exact cW) | (with_reducible refine DW.wr ?_ ?_; focus exact cW) | refine IL.sgF ttok ?_ | refine DW.reF ttok ?_ | refine DW.rmF ttok ?_ | refine DW.nn ?_ | refine DW.nb ?_ | ((first | ((first | refine DW.ag (fun h => ?_) (fun h => ?_) | refine DW.ap (fun h => ?_) (fun h => ?_)); (fail_if_success (focus (simp only [reduceCtorEq] at h)))) | refine WK.cn (fun h => ?_) (fun h => ?_)); all_goals first | (simp only [reduceCtorEq] at h; done) | (simp only [hsA, hsD, hsE, ne_eq] at h; first | done | (exfalso; omega; done) | skip) | skip))
          · refine WK.exit ?_
            simp only [exQ, Nat.reduceEqDiff, if_false, reduceIte]
            refine ⟨2, kS R N stop mv mb l (k + 1), rfl, ?_, rfl, k + 1, rfl, by omega⟩
            have e1 : ((k + 1 : Nat) : Int) = (k : Int) + 1 := rfl
            rcases hmb with ⟨rfl, rfl⟩ | ⟨rfl, rfl⟩
            all_goals
              (refine Weak.renP 10 [0, 1, 2, 3, 4, 5, 6, 7, 8, 9] hfx' (fun k h => of_decide_eq_true h) (fun k hk => by rcases k with _ | _ | _ | _ | _ | _ | _ | _ | _ | _ | k <;> first | exact ⟨rfl, _, rfl, rfl⟩ | omega) rfl ?_ ?_ rfl <;> (simp only [go_sem, reduceIte, exists_eq_left', exists_eq_left, Blk.mk.injEq, e1] <;> (try and_intros) <;> first | rfl | omega))
          · have e1 : ((k + 1 : Nat) : Int) = (k : Int) + 1 := rfl
            rcases hmb with ⟨rfl, rfl⟩ | ⟨rfl, rfl⟩
            all_goals
              (refine Weak.renP 10 [0, 1, 2, 3, 4, 5, 6, 7, 8, 9] hfx' (fun k h => of_decide_eq_true h) (fun k hk => by rcases k with _ | _ | _ | _ | _ | _ | _ | _ | _ | _ | k <;> first | exact ⟨rfl, _, rfl, rfl⟩ | omega) rfl ?_ ?_ rfl <;> (simp only [go_sem, reduceIte, exists_eq_left', exists_eq_left, Blk.mk.injEq, e1] <;> (try and_intros) <;> first | rfl | omega))
        · have f1 : ((l.length : Int) == (l.length : Int)) = true := by simp
          have f2 : (itrX l).length = l.length := by simp
          simp only [f2, kS, kT]
          have FX := f1
          repeat' (first | refine WK.seq ?_ | refine WK.reg ?_ | refine IL.nil ?_ | refine WK.skip ?_ | refine WK.block ?_ | refine WK.exit_here ?_ | refine WK.e1 ?_ | refine WK.e2 ?_ | (with_reducible refine IL.wr ?_ ?_; focus exact cW) | refine IL.sgF ttok ?_ | refine IL.nn ?_ | ((first | ((first | refine IL.ag (fun h => ?_) (fun h => ?_) | refine IL.ap (fun h => ?_) (fun h => ?_)); (fail_if_success (focus (simp only [reduceCtorEq] at h)))) | refine WK.cn (fun h => ?_) (fun h => ?_)); all_goals first | (simp only [reduceCtorEq] at h; done) | (simp only [hsA, hsD, hsE, ne_eq] at h; first | done | (exfalso; omega; done) | skip) | skip))
          all_goals try ((first | refine WK.ret ⟨.inr rfl, ?_⟩ | refine ⟨.inl rfl, ?_⟩ | refine ⟨.inl trivial, ?_⟩); refine Fin.o ?_ ?_ (h1 := by first | rfl | (simp only [go_sem, show Try.f4.results.toList = [.cell 6 4] from rfl, reduceIte] <;> rfl)); rotate_left 1; (focus (first | rfl | skip)); all_goals try with_reducible rfl)
          all_goals skip
        · rintro id Lx ⟨rfl, k, rfl, hk⟩
          simp only [exQ, if_true, kS, kT]
          by_cases hkl : (k : Int) = (l.length : Int)
          · have f1 : ((k : Int) == (l.length : Int)) = true := by simp [hkl]
            have FX := f1
            repeat' (first | refine WK.seq ?_ | refine WK.reg ?_ | refine IL.nil ?_ | refine WK.skip ?_ | refine WK.block ?_ | refine WK.exit_here ?_ | refine WK.e1 ?_ | refine WK.e2 ?_ | (with_reducible refine IL.wr ?_ ?_; focus exact cW) | refine IL.sgF ttok ?_ | refine IL.nn ?_ | ((first | ((first | refine IL.ag (fun h => ?_) (fun h => ?_) | refine IL.ap (fun h => ?_) (fun h => ?_)); (fail_if_success (focus (simp only [reduceCtorEq] at h)))) | refine WK.cn (fun h => ?_) (fun h => ?_)); all_goals first | (simp only [reduceCtorEq] at h; done) | (simp only [hsA, hsD, hsE, ne_eq] at h; first | done | (exfalso; omega; done) | skip) | skip))
            all_goals try ((first | refine WK.ret ⟨.inr rfl, ?_⟩ | refine ⟨.inl rfl, ?_⟩ | refine ⟨.inl trivial, ?_⟩); refine Fin.o ?_ ?_ (h1 := by first | rfl | (simp only [go_sem, show Try.f4.results.toList = [.cell 6 4] from rfl, reduceIte] <;> rfl)); rotate_left 1; (focus (first | rfl | skip)); all_goals try with_reducible rfl)
            all_goals skip
          · have f1 : ((k : Int) == (l.length : Int)) = false := by simp [hkl]
            have f2 : ((k : Int) == stop) = true := by simp [hk]
            have FX := And.intro f1 f2
            repeat' (first | refine WK.seq ?_ | refine WK.reg ?_ | refine IL.nil ?_ | refine WK.skip ?_ | refine WK.block ?_ | refine WK.exit_here ?_ | refine WK.e1 ?_ | refine WK.e2 ?_ | (with_reducible refine IL.wr ?_ ?_; focus exact cW) | refine IL.sgF ttok ?_ | refine IL.nn ?_ | ((first | ((first | refine IL.ag (fun h => ?_) (fun h => ?_) | refine IL.ap (fun h => ?_) (fun h => ?_)); (fail_if_success (focus (simp only [reduceCtorEq] at h)))) | refine WK.cn (fun h => ?_) (fun h => ?_)); all_goals first | (simp only [reduceCtorEq] at h; done) | (simp only [hsA, hsD, hsE, ne_eq] at h; first | done | (exfalso; omega; done) | skip) | skip))
            all_goals try ((first | refine WK.ret ⟨.inr rfl, ?_⟩ | refine ⟨.inl rfl, ?_⟩ | refine ⟨.inl trivial, ?_⟩); refine Fin.o ?_ ?_ (h1 := by first | rfl | (simp only [go_sem, show Try.f4.results.toList = [.cell 6 4] from rfl, reduceIte] <;> rfl)); rotate_left 1; (focus (first | rfl | skip)); all_goals try with_reducible rfl)
            all_goals skip

end Go.Proofs.Ythneocdjknhgdaa
