import Derived.Test.YthneocdjknhgdaaLXHSC
import Derived.Test.YthneocdjknhgdaaLA3
set_option linter.unusedVariables false
set_option linter.unusedSimpArgs false
/- slices.Sort at uint32: pdqsort. -/
namespace Go.Proofs.Ythneocdjknhgdaa.Su
open Go Go.Lift Go.Sort
set_option maxHeartbeats 8000000
set_option linter.unusedSimpArgs false
set_option linter.unusedVariables false
attribute [local irreducible] WK IL IP IG IW DW

theorem hintI_2 (h : Hint) : (hintI h == 2) = decide (h = .decreasing) := by cases h <;> rfl
theorem hintI_1 (h : Hint) : (hintI h == 1) = decide (h = .increasing) := by cases h <;> rfl
theorem pdq_size (n : Nat) (hsz : n < 256) : ∀ (M a b lim : Nat) (wb wp : Bool) (d : Array Int), b - a < M → a ≤ b → b ≤ n → d.size = n → (pdq ltInt d a b lim wb wp).size = n
  | 0, a, b, lim, wb, wp, d, hM, hab, hbn, hd => by omega
  | M + 1, a, b, lim, wb, wp, d, hM, hab, hbn, hd => by
    rw [pdq_unfold]
    split
    · rw [insertionSort, ins_size _ _ _ _ _ (Nat.le_refl _)]; exact hd
    · rename_i h12
      split
      · rw [heapSort_size]; exact hd
      · have h1 : (rd ltInt d a b lim wb wp).d1.size = n := by
          show (if (!wb) = true then breakPatterns d a b else d).size = n
          split
          · rw [brk_size _ _ _ (by omega)]; exact hd
          · exact hd
        have h2 : (rd ltInt d a b lim wb wp).d2.size = n := by
          show (if (rd ltInt d a b lim wb wp).c.2 = .decreasing then reverseRange (rd ltInt d a b lim wb wp).d1 a b else (rd ltInt d a b lim wb wp).d1).size = n
          split
          · rw [rev_size]; exact h1
          · exact h1
        have h3 : (rd ltInt d a b lim wb wp).pi.1.size = n := by
          show (if (wb && wp && decide ((rd ltInt d a b lim wb wp).hint = .increasing)) = true then partialInsertionSort ltInt (rd ltInt d a b lim wb wp).d2 a b else ((rd ltInt d a b lim wb wp).d2, false)).1.size = n
          split
          · rw [partial_size]; exact h2
          · exact h2
        generalize rd ltInt d a b lim wb wp = R at *
        have pe := partitionEqual_bd R.pi.1 a b R.pivot (by omega)
        have pt := partition_bd R.pi.1 a b R.pivot (by omega)
        generalize partitionEqual ltInt R.pi.1 a b R.pivot = e at *
        generalize partition ltInt R.pi.1 a b R.pivot = t at *
        split
        · exact h3
        · split
          · split
            · exact pdq_size n hsz M _ _ _ _ _ _ (by omega) (by omega) (by omega) (by omega)
            · omega
          · split
            · split
              · exact pdq_size n hsz M _ _ _ _ _ _ (by omega) (by omega) (by omega) (pdq_size n hsz M _ _ _ _ _ _ (by omega) (by omega) (by omega) (by omega))
              · exact pdq_size n hsz M _ _ _ _ _ _ (by omega) (by omega) (by omega) (pdq_size n hsz M _ _ _ _ _ _ (by omega) (by omega) (by omega) (by omega))
            · omega
set_option maxRecDepth 10000 in
theorem pdq_call (n : Nat) (hsz : n < 256) (hn0 : 0 < n) : ∀ (M : Nat) (d : Array Int) (a b lim : Nat), b - a < M → d.size = n → a ≤ b → b ≤ n → lim ≤ 1000 →
    SCall Try.prog 16 [uO n d, ii a, ii b, ii lim] (.tup []) [uO n (pdq ltInt d a b lim true true), ii a, ii b, ii lim]
  | 0, d, a, b, lim, hM, hn, hab, hbn, hlim => by omega
  | M + 1, d, a, b, lim, hM, hn, hab, hbn, hlim => by
    have IH := pdq_call n hsz hn0 M
    generalize hr : pdq ltInt d a b lim true true = r
    refine SCall.of_body' (TT := TT) (fun k => decide (k < 1)) [false, false, false, false] ttok Try.func16 rfl (Nat.le_of_ble_eq_true rfl) rfl fun fx hfx => WK.top ?_
    simp only [impl, imp, argT, List.append_nil, List.map_nil, List.map_cons, List.nil_append, List.cons_append, List.length_cons, List.length_nil, show Try.f16.ntmps = 134 from rfl, Nat.zero_add, Nat.reduceAdd]
    repeat' (first | refine WK.seq ?_ | refine WK.reg ?_ | refine IL.nil ?_ | refine WK.skip ?_ | refine WK.block ?_ | refine WK.exit_here ?_ | refine WK.e1 ?_ | refine WK.e2 ?_ | refine WK.drawnS (id := 17) mixed [0] [12] [0, 0, 0, 0, 0, 0, 0, 0, 0, 0, 0, 0, 0, 1, 1] [0, 0, 0, 0, 0, 0, 0, 0, 0, 0, 0, 0, 0, 1, 1] (by decide +kernel) ?_ | refine DW.nil ?_ | (with_reducible refine IL.wr ?_ ?_; focus exact cW) | (with_reducible refine DW.wr ?_ ?_; focus exact cW) | refine IL.sg ttok ?_ | refine IL.nn ?_ | refine DW.re ttok ?_ | refine DW.rm ttok ?_ | refine DW.nn ?_ | refine DW.nb ?_ | refine IL.cS ttok ent16 [.own, .bor, .bor, .bor] false ?_ (hS := by exact hrec) | refine IL.cS ttok ent18 [.own, .bor, .bor] false ?_ (hS := by exact hins) | refine IL.cS ttok ent19 [.own, .bor, .bor] false ?_ (hS := by exact hhp) | refine IL.cS ttok ent20 [.own, .bor, .bor] false ?_ (hS := by exact hbk) | refine IL.cS ttok ent21 [.bor, .bor, .bor] true ?_ (hS := by exact hpv) | refine IL.cS ttok ent22 [.own, .bor, .bor] false ?_ (hS := by exact hrv) | refine IL.cS ttok ent23 [.own, .bor, .bor] false ?_ (hS := by exact hpi) | refine DW.cS ttok ent24 [.bor, .bor] true ?_ (hS := by exact less_call _ _) | refine IL.cS ttok ent25 [.own, .bor, .bor, .bor] false ?_ (hS := by exact hpe) | refine IL.cS ttok ent26 [.own, .bor, .bor, .bor] false ?_ (hS := by exact hpt) | ((first | ((first | refine IL.ag (fun h => ?_) (fun h => ?_) | refine DW.ag (fun h => ?_) (fun h => ?_) | refine IL.ap (fun h => ?_) (fun h => ?_) | refine DW.ap (fun h => ?_) (fun h => ?_)); (fail_if_success (focus (simp only [reduceCtorEq] at h)))) | refine WK.cn (fun h => ?_) (fun h => ?_)); all_goals first | (simp only [reduceCtorEq] at h; done) | (simp only [hsA, hsD, hsE, ne_eq] at h; first | done | (exfalso; omega; done) | skip) | skip))
    refine WK.whileS (α := Nat × Nat × Nat × Bool × Bool × Array Int) (fun x => x.2.1 - x.1) (fun x => x.1 ≤ x.2.1 ∧ x.2.1 ≤ n ∧ x.2.1 - x.1 < M + 1 ∧ x.2.2.1 ≤ 1000 ∧ x.2.2.2.2.2.size = n ∧ pdq ltInt x.2.2.2.2.2 x.1 x.2.1 x.2.2.1 x.2.2.2.1 x.2.2.2.2.1 = r) (fun x => ⟨134, [(0, .sl 0 0 0 n), (1, ii x.1), (2, ii x.2.1), (3, ii x.2.2.1), (8, .v (.bool x.2.2.2.1)), (9, .v (.bool x.2.2.2.2.1))], [some ⟨true, 24, n, true, rwC x.2.2.2.2.2, 0, false⟩]⟩) (a, b, lim, true, true, d) ⟨⟨hab, hbn, hM, hlim, hn, hr⟩, ?_⟩ ?_
    · (refine Weak.renP 1 [0] hfx (fun k h => of_decide_eq_true h) (fun k hk => by obtain rfl : k = 0 := (by omega); exact ⟨rfl, _, rfl, rfl⟩) rfl ?_ ?_ rfl <;> (simp only [go_sem, reduceIte, exists_eq_left', exists_eq_left, Blk.mk.injEq] <;> (try and_intros) <;> first | rfl | omega))
    · clear hr hlim hbn hab hM hn
      rintro ⟨a, b, lim, wb, wp, d⟩ ⟨h1, h2, h5, h6, h3, h4⟩
      simp only at h1 h2 h3 h4 h5 h6
      have hL : (b : Int) - (a : Int) = ((b - a : Nat) : Int) := by omega
      by_cases s12 : b - a ≤ 12
      · rw [pdq_small s12] at h4
        subst h4
        have g12 : decide (((b - a : Nat) : Int) ≤ 12) = true := decide_eq_true (by omega)
        have hins := ins_call d n a b h3 (by omega) h2 (by omega)
        generalize insertionSort ltInt d a b = d' at *
        generalize b - a = L at *
        have FX := And.intro hL (And.intro g12 hn0)
        repeat' (first | refine WK.seq ?_ | refine WK.reg ?_ | refine IL.nil ?_ | refine WK.skip ?_ | refine WK.block ?_ | refine WK.exit_here ?_ | refine WK.e1 ?_ | refine WK.e2 ?_ | refine WK.drawnS (id := 17) mixed [0] [12] [0, 0, 0, 0, 0, 0, 0, 0, 0, 0, 0, 0, 0, 1, 1] [0, 0, 0, 0, 0, 0, 0, 0, 0, 0, 0, 0, 0, 1, 1] (by decide +kernel) ?_ | refine DW.nil ?_ | (with_reducible refine IL.wr ?_ ?_; focus exact cW) | (with_reducible refine DW.wr ?_ ?_; focus exact cW) | refine IL.sgF ttok ?_ | refine IL.nn ?_ | refine DW.reF ttok ?_ | refine DW.rmF ttok ?_ | refine DW.nn ?_ | refine DW.nb ?_ | refine IL.cSF ttok ent16 [.own, .bor, .bor, .bor] false ?_ (hS := by exact hrec) | refine IL.cSF ttok ent18 [.own, .bor, .bor] false ?_ (hS := by exact hins) | refine IL.cSF ttok ent19 [.own, .bor, .bor] false ?_ (hS := by exact hhp) | refine IL.cSF ttok ent20 [.own, .bor, .bor] false ?_ (hS := by exact hbk) | refine IL.cSF ttok ent21 [.bor, .bor, .bor] true ?_ (hS := by exact hpv) | refine IL.cSF ttok ent22 [.own, .bor, .bor] false ?_ (hS := by exact hrv) | refine IL.cSF ttok ent23 [.own, .bor, .bor] false ?_ (hS := by exact hpi) | refine DW.cSF ttok ent24 [.bor, .bor] true ?_ (hS := by exact less_call _ _) | refine IL.cSF ttok ent25 [.own, .bor, .bor, .bor] false ?_ (hS := by exact hpe) | refine IL.cSF ttok ent26 [.own, .bor, .bor, .bor] false ?_ (hS := by exact hpt) | ((first | ((first | refine IL.ag (fun h => ?_) (fun h => ?_) | refine DW.ag (fun h => ?_) (fun h => ?_) | refine IL.ap (fun h => ?_) (fun h => ?_) | refine DW.ap (fun h => ?_) (fun h => ?_)); (fail_if_success (focus (simp only [reduceCtorEq] at h)))) | refine WK.cn (fun h => ?_) (fun h => ?_)); all_goals first | (simp only [reduceCtorEq] at h; done) | (simp only [hsA, hsD, hsE, ne_eq] at h; first | done | (exfalso; omega; done) | skip) | skip))
        all_goals try ((first | refine WK.ret ⟨.inr rfl, ?_⟩ | refine ⟨.inl rfl, ?_⟩ | refine ⟨.inl trivial, ?_⟩); refine Fin.o ?_ ?_ (h1 := by first | rfl | (simp only [go_sem, show Try.f16.results.toList = [] from rfl, reduceIte] <;> rfl)); rotate_left 1; (focus (first | rfl | skip)); all_goals try with_reducible rfl)
        all_goals skip
      · have g12 : decide (((b - a : Nat) : Int) ≤ 12) = false := decide_eq_false (by omega)
        by_cases z : lim = 0
        · subst z
          rw [pdq_heap s12 rfl] at h4
          subst h4
          have g0 : (((0 : Nat) : Int) == 0) = true := rfl
          have hhp := heap_call d n a b h3 (by omega) h2 (by omega)
          generalize heapSort ltInt d a b = d' at *
          generalize b - a = L at *
          have FX := And.intro hL (And.intro g12 (And.intro g0 hn0))
          repeat' (first | refine WK.seq ?_ | refine WK.reg ?_ | refine IL.nil ?_ | refine WK.skip ?_ | refine WK.block ?_ | refine WK.exit_here ?_ | refine WK.e1 ?_ | refine WK.e2 ?_ | refine WK.drawnS (id := 17) mixed [0] [12] [0, 0, 0, 0, 0, 0, 0, 0, 0, 0, 0, 0, 0, 1, 1] [0, 0, 0, 0, 0, 0, 0, 0, 0, 0, 0, 0, 0, 1, 1] (by decide +kernel) ?_ | refine DW.nil ?_ | (with_reducible refine IL.wr ?_ ?_; focus exact cW) | (with_reducible refine DW.wr ?_ ?_; focus exact cW) | refine IL.sgF ttok ?_ | refine IL.nn ?_ | refine DW.reF ttok ?_ | refine DW.rmF ttok ?_ | refine DW.nn ?_ | refine DW.nb ?_ | refine IL.cSF ttok ent16 [.own, .bor, .bor, .bor] false ?_ (hS := by exact hrec) | refine IL.cSF ttok ent18 [.own, .bor, .bor] false ?_ (hS := by exact hins) | refine IL.cSF ttok ent19 [.own, .bor, .bor] false ?_ (hS := by exact hhp) | refine IL.cSF ttok ent20 [.own, .bor, .bor] false ?_ (hS := by exact hbk) | refine IL.cSF ttok ent21 [.bor, .bor, .bor] true ?_ (hS := by exact hpv) | refine IL.cSF ttok ent22 [.own, .bor, .bor] false ?_ (hS := by exact hrv) | refine IL.cSF ttok ent23 [.own, .bor, .bor] false ?_ (hS := by exact hpi) | refine DW.cSF ttok ent24 [.bor, .bor] true ?_ (hS := by exact less_call _ _) | refine IL.cSF ttok ent25 [.own, .bor, .bor, .bor] false ?_ (hS := by exact hpe) | refine IL.cSF ttok ent26 [.own, .bor, .bor, .bor] false ?_ (hS := by exact hpt) | ((first | ((first | refine IL.ag (fun h => ?_) (fun h => ?_) | refine DW.ag (fun h => ?_) (fun h => ?_) | refine IL.ap (fun h => ?_) (fun h => ?_) | refine DW.ap (fun h => ?_) (fun h => ?_)); (fail_if_success (focus (simp only [reduceCtorEq] at h)))) | refine WK.cn (fun h => ?_) (fun h => ?_)); all_goals first | (simp only [reduceCtorEq] at h; done) | (simp only [hsA, hsD, hsE, ne_eq] at h; first | done | (exfalso; omega; done) | skip) | skip))
          all_goals try ((first | refine WK.ret ⟨.inr rfl, ?_⟩ | refine ⟨.inl rfl, ?_⟩ | refine ⟨.inl trivial, ?_⟩); refine Fin.o ?_ ?_ (h1 := by first | rfl | (simp only [go_sem, show Try.f16.results.toList = [] from rfl, reduceIte] <;> rfl)); rotate_left 1; (focus (first | rfl | skip)); all_goals try with_reducible rfl)
          all_goals skip
        · have g0 : ((lim : Int) == 0) = false := beq_eq_false_iff_ne.2 (by omega)
          have hdone := pdq_done (lt := ltInt) (d := d) (wb := wb) (wp := wp) s12 z
          have heq := pdq_eq (lt := ltInt) (d := d) (wb := wb) (wp := wp) s12 z
          have hlf := pdq_left (lt := ltInt) (d := d) (wb := wb) (wp := wp) s12 z
          have hrt := pdq_right (lt := ltInt) (d := d) (wb := wb) (wp := wp) s12 z
          rw [h4] at hdone heq hlf hrt
          generalize hR : rd ltInt d a b lim wb wp = R at *
          have f1 : R.d1 = if (!wb) = true then breakPatterns d a b else d := by rw [← hR]; rfl
          have f2 : R.lim = if (!wb) = true then lim - 1 else lim := by rw [← hR]; rfl
          have f3 : R.c = choosePivot ltInt R.d1 a b := by rw [← hR]; rfl
          have f4 : R.d2 = if R.c.2 = .decreasing then reverseRange R.d1 a b else R.d1 := by rw [← hR]; rfl
          have f5 : R.pivot = if R.c.2 = .decreasing then (b - 1) - (R.c.1 - a) else R.c.1 := by rw [← hR]; rfl
          have f6 : R.hint = if R.c.2 = .decreasing then Hint.increasing else R.c.2 := by rw [← hR]; rfl
          have f7 : R.pi = if (wb && wp && decide (R.hint = .increasing)) = true then partialInsertionSort ltInt R.d2 a b else (R.d2, false) := by rw [← hR]; rfl
          clear hR
          obtain ⟨d1, lim1, ⟨c1, ch⟩, d2, pv, hint, ⟨d3, dn⟩⟩ := R
          simp only at f1 f2 f3 f4 f5 f6 f7 hdone heq hlf hrt
          have n1 : d1.size = n := by
            rw [f1]; split
            · rw [brk_size _ _ _ (by omega)]; exact h3
            · exact h3
          have n2 : d2.size = n := by
            rw [f4]; split
            · rw [rev_size]; exact n1
            · exact n1
          have n3 : d3.size = n := by
            have : d3 = (d3, dn).1 := rfl
            rw [this, f7]; split
            · rw [partial_size]; exact n2
            · exact n2
          have hcb := choosePivot_holds ltInt d1 a b (by omega)
          have hpv := pivot_call d1 n a b n1 (by omega) h2 (by omega)
          rw [← f3] at hcb hpv
          simp only at hcb hpv
          have pvb : a ≤ pv ∧ pv < b := by rw [f5]; split <;> omega
          have hl1 : lim1 ≤ 1000 := by rw [f2]; split <;> omega
          have FX := And.intro hL (And.intro g12 g0)
          repeat' (first | refine WK.seq ?_ | refine WK.reg ?_ | refine IL.nil ?_ | refine WK.skip ?_ | refine WK.block ?_ | refine WK.exit_here ?_ | refine WK.e1 ?_ | refine WK.e2 ?_ | refine WK.drawnS (id := 17) mixed [0] [12] [0, 0, 0, 0, 0, 0, 0, 0, 0, 0, 0, 0, 0, 1, 1] [0, 0, 0, 0, 0, 0, 0, 0, 0, 0, 0, 0, 0, 1, 1] (by decide +kernel) ?_ | refine DW.nil ?_ | (with_reducible refine IL.wr ?_ ?_; focus exact cW) | (with_reducible refine DW.wr ?_ ?_; focus exact cW) | refine IL.sgF ttok ?_ | refine IL.nn ?_ | refine DW.reF ttok ?_ | refine DW.rmF ttok ?_ | refine DW.nn ?_ | refine DW.nb ?_ | refine IL.cSF ttok ent16 [.own, .bor, .bor, .bor] false ?_ (hS := by exact hrec) | refine IL.cSF ttok ent18 [.own, .bor, .bor] false ?_ (hS := by exact hins) | refine IL.cSF ttok ent19 [.own, .bor, .bor] false ?_ (hS := by exact hhp) | refine IL.cSF ttok ent20 [.own, .bor, .bor] false ?_ (hS := by exact hbk) | refine IL.cSF ttok ent21 [.bor, .bor, .bor] true ?_ (hS := by exact hpv) | refine IL.cSF ttok ent22 [.own, .bor, .bor] false ?_ (hS := by exact hrv) | refine IL.cSF ttok ent23 [.own, .bor, .bor] false ?_ (hS := by exact hpi) | refine DW.cSF ttok ent24 [.bor, .bor] true ?_ (hS := by exact less_call _ _) | refine IL.cSF ttok ent25 [.own, .bor, .bor, .bor] false ?_ (hS := by exact hpe) | refine IL.cSF ttok ent26 [.own, .bor, .bor, .bor] false ?_ (hS := by exact hpt) | (((first | refine IL.ag (fun h => ?_) (fun h => ?_) | refine DW.ag (fun h => ?_) (fun h => ?_) | refine IL.ap (fun h => ?_) (fun h => ?_) | refine DW.ap (fun h => ?_) (fun h => ?_)); (fail_if_success (focus (simp only [reduceCtorEq] at h)))); all_goals first | (simp only [reduceCtorEq] at h; done) | (simp only [hsA, hsD, hsE, ne_eq] at h; first | done | (exfalso; omega; done) | skip) | skip))
          refine WK.cond (b := false) rfl (fun h => by cases h) (fun _ => ?_)
          have FX := And.intro hL (And.intro g12 g0)
          repeat' (first | refine WK.seq ?_ | refine WK.reg ?_ | refine IL.nil ?_ | refine WK.skip ?_ | refine WK.block ?_ | refine WK.exit_here ?_ | refine WK.e1 ?_ | refine WK.e2 ?_ | refine WK.drawnS (id := 17) mixed [0] [12] [0, 0, 0, 0, 0, 0, 0, 0, 0, 0, 0, 0, 0, 1, 1] [0, 0, 0, 0, 0, 0, 0, 0, 0, 0, 0, 0, 0, 1, 1] (by decide +kernel) ?_ | refine DW.nil ?_ | (with_reducible refine IL.wr ?_ ?_; focus exact cW) | (with_reducible refine DW.wr ?_ ?_; focus exact cW) | refine IL.sgF ttok ?_ | refine IL.nn ?_ | refine DW.reF ttok ?_ | refine DW.rmF ttok ?_ | refine DW.nn ?_ | refine DW.nb ?_ | refine IL.cSF ttok ent16 [.own, .bor, .bor, .bor] false ?_ (hS := by exact hrec) | refine IL.cSF ttok ent18 [.own, .bor, .bor] false ?_ (hS := by exact hins) | refine IL.cSF ttok ent19 [.own, .bor, .bor] false ?_ (hS := by exact hhp) | refine IL.cSF ttok ent20 [.own, .bor, .bor] false ?_ (hS := by exact hbk) | refine IL.cSF ttok ent21 [.bor, .bor, .bor] true ?_ (hS := by exact hpv) | refine IL.cSF ttok ent22 [.own, .bor, .bor] false ?_ (hS := by exact hrv) | refine IL.cSF ttok ent23 [.own, .bor, .bor] false ?_ (hS := by exact hpi) | refine DW.cSF ttok ent24 [.bor, .bor] true ?_ (hS := by exact less_call _ _) | refine IL.cSF ttok ent25 [.own, .bor, .bor, .bor] false ?_ (hS := by exact hpe) | refine IL.cSF ttok ent26 [.own, .bor, .bor, .bor] false ?_ (hS := by exact hpt) | (((first | refine IL.ag (fun h => ?_) (fun h => ?_) | refine DW.ag (fun h => ?_) (fun h => ?_) | refine IL.ap (fun h => ?_) (fun h => ?_) | refine DW.ap (fun h => ?_) (fun h => ?_)); (fail_if_success (focus (simp only [reduceCtorEq] at h)))); all_goals first | (simp only [reduceCtorEq] at h; done) | (simp only [hsA, hsD, hsE, ne_eq] at h; first | done | (exfalso; omega; done) | skip) | skip))
          refine WK.cond (b := false) rfl (fun h => by cases h) (fun _ => ?_)
          have FX := And.intro hL (And.intro g12 g0)
          repeat' (first | refine WK.seq ?_ | refine WK.reg ?_ | refine IL.nil ?_ | refine WK.skip ?_ | refine WK.block ?_ | refine WK.exit_here ?_ | refine WK.e1 ?_ | refine WK.e2 ?_ | refine WK.drawnS (id := 17) mixed [0] [12] [0, 0, 0, 0, 0, 0, 0, 0, 0, 0, 0, 0, 0, 1, 1] [0, 0, 0, 0, 0, 0, 0, 0, 0, 0, 0, 0, 0, 1, 1] (by decide +kernel) ?_ | refine DW.nil ?_ | (with_reducible refine IL.wr ?_ ?_; focus exact cW) | (with_reducible refine DW.wr ?_ ?_; focus exact cW) | refine IL.sgF ttok ?_ | refine IL.nn ?_ | refine DW.reF ttok ?_ | refine DW.rmF ttok ?_ | refine DW.nn ?_ | refine DW.nb ?_ | refine IL.cSF ttok ent16 [.own, .bor, .bor, .bor] false ?_ (hS := by exact hrec) | refine IL.cSF ttok ent18 [.own, .bor, .bor] false ?_ (hS := by exact hins) | refine IL.cSF ttok ent19 [.own, .bor, .bor] false ?_ (hS := by exact hhp) | refine IL.cSF ttok ent20 [.own, .bor, .bor] false ?_ (hS := by exact hbk) | refine IL.cSF ttok ent21 [.bor, .bor, .bor] true ?_ (hS := by exact hpv) | refine IL.cSF ttok ent22 [.own, .bor, .bor] false ?_ (hS := by exact hrv) | refine IL.cSF ttok ent23 [.own, .bor, .bor] false ?_ (hS := by exact hpi) | refine DW.cSF ttok ent24 [.bor, .bor] true ?_ (hS := by exact less_call _ _) | refine IL.cSF ttok ent25 [.own, .bor, .bor, .bor] false ?_ (hS := by exact hpe) | refine IL.cSF ttok ent26 [.own, .bor, .bor, .bor] false ?_ (hS := by exact hpt) | (((first | refine IL.ag (fun h => ?_) (fun h => ?_) | refine DW.ag (fun h => ?_) (fun h => ?_) | refine IL.ap (fun h => ?_) (fun h => ?_) | refine DW.ap (fun h => ?_) (fun h => ?_)); (fail_if_success (focus (simp only [reduceCtorEq] at h)))); all_goals first | (simp only [reduceCtorEq] at h; done) | (simp only [hsA, hsD, hsE, ne_eq] at h; first | done | (exfalso; omega; done) | skip) | skip))
          refine WK.join ⟨134, [(0, .sl 0 0 0 n), (1, ii a), (2, ii b), (3, ii lim1), (8, .v (.bool wb)), (9, .v (.bool wp)), (10, ii (b - a : Nat))], [some ⟨true, 24, n, true, rwC d1, 0, false⟩]⟩ ?_ ?_
          · refine WK.cond (b := !wb) rfl (fun h => ?_) (fun h => ?_)
            · obtain rfl : wb = false := by simpa using h
              have hbk := brk_call d n a b h3 (by omega) h2 hsz
              rw [if_pos (show (!false) = true from rfl)] at f1 f2
              rw [← f1] at hbk
              have hlm : (lim : Int) - 1 = (lim1 : Int) := by omega
              have FX := And.intro hn0 hlm
              repeat' (first | refine WK.seq ?_ | refine WK.reg ?_ | refine IL.nil ?_ | refine WK.skip ?_ | refine WK.block ?_ | refine WK.exit_here ?_ | refine WK.e1 ?_ | refine WK.e2 ?_ | refine WK.drawnS (id := 17) mixed [0] [12] [0, 0, 0, 0, 0, 0, 0, 0, 0, 0, 0, 0, 0, 1, 1] [0, 0, 0, 0, 0, 0, 0, 0, 0, 0, 0, 0, 0, 1, 1] (by decide +kernel) ?_ | refine DW.nil ?_ | (with_reducible refine IL.wr ?_ ?_; focus exact cW) | (with_reducible refine DW.wr ?_ ?_; focus exact cW) | refine IL.sgF ttok ?_ | refine IL.nn ?_ | refine DW.reF ttok ?_ | refine DW.rmF ttok ?_ | refine DW.nn ?_ | refine DW.nb ?_ | refine IL.cSF ttok ent16 [.own, .bor, .bor, .bor] false ?_ (hS := by exact hrec) | refine IL.cSF ttok ent18 [.own, .bor, .bor] false ?_ (hS := by exact hins) | refine IL.cSF ttok ent19 [.own, .bor, .bor] false ?_ (hS := by exact hhp) | refine IL.cSF ttok ent20 [.own, .bor, .bor] false ?_ (hS := by exact hbk) | refine IL.cSF ttok ent21 [.bor, .bor, .bor] true ?_ (hS := by exact hpv) | refine IL.cSF ttok ent22 [.own, .bor, .bor] false ?_ (hS := by exact hrv) | refine IL.cSF ttok ent23 [.own, .bor, .bor] false ?_ (hS := by exact hpi) | refine DW.cSF ttok ent24 [.bor, .bor] true ?_ (hS := by exact less_call _ _) | refine IL.cSF ttok ent25 [.own, .bor, .bor, .bor] false ?_ (hS := by exact hpe) | refine IL.cSF ttok ent26 [.own, .bor, .bor, .bor] false ?_ (hS := by exact hpt) | ((first | ((first | refine IL.ag (fun h => ?_) (fun h => ?_) | refine DW.ag (fun h => ?_) (fun h => ?_) | refine IL.ap (fun h => ?_) (fun h => ?_) | refine DW.ap (fun h => ?_) (fun h => ?_)); (fail_if_success (focus (simp only [reduceCtorEq] at h)))) | refine WK.cn (fun h => ?_) (fun h => ?_)); all_goals first | (simp only [reduceCtorEq] at h; done) | (simp only [hsA, hsD, hsE, ne_eq] at h; first | done | (exfalso; omega; done) | skip) | skip))
              (refine Weak.renP 1 [0] hfx (fun k h => of_decide_eq_true h) (fun k hk => by obtain rfl : k = 0 := (by omega); exact ⟨rfl, _, rfl, rfl⟩) rfl ?_ ?_ rfl <;> (simp only [go_sem, reduceIte, exists_eq_left', exists_eq_left, Blk.mk.injEq, hlm, hL] <;> (try and_intros) <;> first | rfl | omega))
            · obtain rfl : wb = true := by simpa using h
              rw [if_neg (by decide)] at f1 f2
              subst f1
              subst f2
              repeat' (first | refine WK.seq ?_ | refine WK.reg ?_ | refine IL.nil ?_ | refine WK.skip ?_ | refine WK.block ?_ | refine WK.exit_here ?_ | refine WK.e1 ?_ | refine WK.e2 ?_ | refine WK.drawnS (id := 17) mixed [0] [12] [0, 0, 0, 0, 0, 0, 0, 0, 0, 0, 0, 0, 0, 1, 1] [0, 0, 0, 0, 0, 0, 0, 0, 0, 0, 0, 0, 0, 1, 1] (by decide +kernel) ?_ | refine DW.nil ?_ | (with_reducible refine IL.wr ?_ ?_; focus exact cW) | (with_reducible refine DW.wr ?_ ?_; focus exact cW) | refine IL.sg ttok ?_ | refine IL.nn ?_ | refine DW.re ttok ?_ | refine DW.rm ttok ?_ | refine DW.nn ?_ | refine DW.nb ?_ | refine IL.cS ttok ent16 [.own, .bor, .bor, .bor] false ?_ (hS := by exact hrec) | refine IL.cS ttok ent18 [.own, .bor, .bor] false ?_ (hS := by exact hins) | refine IL.cS ttok ent19 [.own, .bor, .bor] false ?_ (hS := by exact hhp) | refine IL.cS ttok ent20 [.own, .bor, .bor] false ?_ (hS := by exact hbk) | refine IL.cS ttok ent21 [.bor, .bor, .bor] true ?_ (hS := by exact hpv) | refine IL.cS ttok ent22 [.own, .bor, .bor] false ?_ (hS := by exact hrv) | refine IL.cS ttok ent23 [.own, .bor, .bor] false ?_ (hS := by exact hpi) | refine DW.cS ttok ent24 [.bor, .bor] true ?_ (hS := by exact less_call _ _) | refine IL.cS ttok ent25 [.own, .bor, .bor, .bor] false ?_ (hS := by exact hpe) | refine IL.cS ttok ent26 [.own, .bor, .bor, .bor] false ?_ (hS := by exact hpt) | ((first | ((first | refine IL.ag (fun h => ?_) (fun h => ?_) | refine DW.ag (fun h => ?_) (fun h => ?_) | refine IL.ap (fun h => ?_) (fun h => ?_) | refine DW.ap (fun h => ?_) (fun h => ?_)); (fail_if_success (focus (simp only [reduceCtorEq] at h)))) | refine WK.cn (fun h => ?_) (fun h => ?_)); all_goals first | (simp only [reduceCtorEq] at h; done) | (simp only [hsA, hsD, hsE, ne_eq] at h; first | done | (exfalso; omega; done) | skip) | skip))
              (refine Weak.renP 1 [0] hfx (fun k h => of_decide_eq_true h) (fun k hk => by obtain rfl : k = 0 := (by omega); exact ⟨rfl, _, rfl, rfl⟩) rfl ?_ ?_ rfl <;> (simp only [go_sem, reduceIte, exists_eq_left', exists_eq_left, Blk.mk.injEq, hL] <;> (try and_intros) <;> first | rfl | omega))
          · have htk : (rwC d1).take n = rwC d1 := List.take_of_length_le (by rw [rwC_len]; omega)
            have FX := And.intro hn0 htk
            repeat' (first | refine WK.seq ?_ | refine WK.reg ?_ | refine IL.nil ?_ | refine WK.skip ?_ | refine WK.block ?_ | refine WK.exit_here ?_ | refine WK.e1 ?_ | refine WK.e2 ?_ | refine WK.drawnS (id := 17) mixed [0] [12] [0, 0, 0, 0, 0, 0, 0, 0, 0, 0, 0, 0, 0, 1, 1] [0, 0, 0, 0, 0, 0, 0, 0, 0, 0, 0, 0, 0, 1, 1] (by decide +kernel) ?_ | refine DW.nil ?_ | (with_reducible refine IL.wr ?_ ?_; focus exact cW) | (with_reducible refine DW.wr ?_ ?_; focus exact cW) | refine IL.sgF ttok ?_ | refine IL.nn ?_ | refine DW.reF ttok ?_ | refine DW.rmF ttok ?_ | refine DW.nn ?_ | refine DW.nb ?_ | refine IL.cSF ttok ent16 [.own, .bor, .bor, .bor] false ?_ (hS := by exact hrec) | refine IL.cSF ttok ent18 [.own, .bor, .bor] false ?_ (hS := by exact hins) | refine IL.cSF ttok ent19 [.own, .bor, .bor] false ?_ (hS := by exact hhp) | refine IL.cSF ttok ent20 [.own, .bor, .bor] false ?_ (hS := by exact hbk) | refine IL.cSF ttok ent21 [.bor, .bor, .bor] true ?_ (hS := by exact hpv) | refine IL.cSF ttok ent22 [.own, .bor, .bor] false ?_ (hS := by exact hrv) | refine IL.cSF ttok ent23 [.own, .bor, .bor] false ?_ (hS := by exact hpi) | refine DW.cSF ttok ent24 [.bor, .bor] true ?_ (hS := by exact less_call _ _) | refine IL.cSF ttok ent25 [.own, .bor, .bor, .bor] false ?_ (hS := by exact hpe) | refine IL.cSF ttok ent26 [.own, .bor, .bor, .bor] false ?_ (hS := by exact hpt) | (((first | refine IL.ag (fun h => ?_) (fun h => ?_) | refine DW.ag (fun h => ?_) (fun h => ?_) | refine IL.ap (fun h => ?_) (fun h => ?_) | refine DW.ap (fun h => ?_) (fun h => ?_)); (fail_if_success (focus (simp only [reduceCtorEq] at h)))); all_goals first | (simp only [reduceCtorEq] at h; done) | (simp only [hsA, hsD, hsE, ne_eq] at h; first | done | (exfalso; omega; done) | skip) | skip))
            refine WK.join ⟨134, [(0, .sl 0 0 0 n), (1, ii a), (2, ii b), (3, ii lim1), (8, .v (.bool wb)), (9, .v (.bool wp)), (10, ii (b - a : Nat)), (11, ii pv), (12, ii (hintI hint))], [some ⟨true, 24, n, true, rwC d2, 0, false⟩]⟩ ?_ ?_
            · refine WK.cond (b := hintI ch == 2) rfl (fun h => ?_) (fun h => ?_)
              · have hdec : ch = .decreasing := by rw [hintI_2] at h; simpa using h
                rw [if_pos hdec] at f4 f5 f6
                have hrv := rev_call d1 n a b n1 (by omega) (by omega) h2 (by omega)
                rw [← f4] at hrv
                have e1 : (b : Int) - 1 - ((c1 : Int) - (a : Int)) = (pv : Int) := by omega
                subst f6
                have e2 : hintI Hint.increasing = 1 := rfl
                have FX := And.intro hn0 e1
                repeat' (first | refine WK.seq ?_ | refine WK.reg ?_ | refine IL.nil ?_ | refine WK.skip ?_ | refine WK.block ?_ | refine WK.exit_here ?_ | refine WK.e1 ?_ | refine WK.e2 ?_ | refine WK.drawnS (id := 17) mixed [0] [12] [0, 0, 0, 0, 0, 0, 0, 0, 0, 0, 0, 0, 0, 1, 1] [0, 0, 0, 0, 0, 0, 0, 0, 0, 0, 0, 0, 0, 1, 1] (by decide +kernel) ?_ | refine DW.nil ?_ | (with_reducible refine IL.wr ?_ ?_; focus exact cW) | (with_reducible refine DW.wr ?_ ?_; focus exact cW) | refine IL.sgF ttok ?_ | refine IL.nn ?_ | refine DW.reF ttok ?_ | refine DW.rmF ttok ?_ | refine DW.nn ?_ | refine DW.nb ?_ | refine IL.cSF ttok ent16 [.own, .bor, .bor, .bor] false ?_ (hS := by exact hrec) | refine IL.cSF ttok ent18 [.own, .bor, .bor] false ?_ (hS := by exact hins) | refine IL.cSF ttok ent19 [.own, .bor, .bor] false ?_ (hS := by exact hhp) | refine IL.cSF ttok ent20 [.own, .bor, .bor] false ?_ (hS := by exact hbk) | refine IL.cSF ttok ent21 [.bor, .bor, .bor] true ?_ (hS := by exact hpv) | refine IL.cSF ttok ent22 [.own, .bor, .bor] false ?_ (hS := by exact hrv) | refine IL.cSF ttok ent23 [.own, .bor, .bor] false ?_ (hS := by exact hpi) | refine DW.cSF ttok ent24 [.bor, .bor] true ?_ (hS := by exact less_call _ _) | refine IL.cSF ttok ent25 [.own, .bor, .bor, .bor] false ?_ (hS := by exact hpe) | refine IL.cSF ttok ent26 [.own, .bor, .bor, .bor] false ?_ (hS := by exact hpt) | ((first | ((first | refine IL.ag (fun h => ?_) (fun h => ?_) | refine DW.ag (fun h => ?_) (fun h => ?_) | refine IL.ap (fun h => ?_) (fun h => ?_) | refine DW.ap (fun h => ?_) (fun h => ?_)); (fail_if_success (focus (simp only [reduceCtorEq] at h)))) | refine WK.cn (fun h => ?_) (fun h => ?_)); all_goals first | (simp only [reduceCtorEq] at h; done) | (simp only [hsA, hsD, hsE, ne_eq] at h; first | done | (exfalso; omega; done) | skip) | skip))
                (refine Weak.renP 1 [0] hfx (fun k h => of_decide_eq_true h) (fun k hk => by obtain rfl : k = 0 := (by omega); exact ⟨rfl, _, rfl, rfl⟩) rfl ?_ ?_ rfl <;> (simp only [go_sem, reduceIte, exists_eq_left', exists_eq_left, Blk.mk.injEq, e1, e2] <;> (try and_intros) <;> first | rfl | omega))
              · have hdec : ¬ ch = .decreasing := by rw [hintI_2] at h; simpa using h
                rw [if_neg hdec] at f4 f5 f6
                subst f4
                subst f5
                subst f6
                repeat' (first | refine WK.seq ?_ | refine WK.reg ?_ | refine IL.nil ?_ | refine WK.skip ?_ | refine WK.block ?_ | refine WK.exit_here ?_ | refine WK.e1 ?_ | refine WK.e2 ?_ | refine WK.drawnS (id := 17) mixed [0] [12] [0, 0, 0, 0, 0, 0, 0, 0, 0, 0, 0, 0, 0, 1, 1] [0, 0, 0, 0, 0, 0, 0, 0, 0, 0, 0, 0, 0, 1, 1] (by decide +kernel) ?_ | refine DW.nil ?_ | (with_reducible refine IL.wr ?_ ?_; focus exact cW) | (with_reducible refine DW.wr ?_ ?_; focus exact cW) | refine IL.sg ttok ?_ | refine IL.nn ?_ | refine DW.re ttok ?_ | refine DW.rm ttok ?_ | refine DW.nn ?_ | refine DW.nb ?_ | refine IL.cS ttok ent16 [.own, .bor, .bor, .bor] false ?_ (hS := by exact hrec) | refine IL.cS ttok ent18 [.own, .bor, .bor] false ?_ (hS := by exact hins) | refine IL.cS ttok ent19 [.own, .bor, .bor] false ?_ (hS := by exact hhp) | refine IL.cS ttok ent20 [.own, .bor, .bor] false ?_ (hS := by exact hbk) | refine IL.cS ttok ent21 [.bor, .bor, .bor] true ?_ (hS := by exact hpv) | refine IL.cS ttok ent22 [.own, .bor, .bor] false ?_ (hS := by exact hrv) | refine IL.cS ttok ent23 [.own, .bor, .bor] false ?_ (hS := by exact hpi) | refine DW.cS ttok ent24 [.bor, .bor] true ?_ (hS := by exact less_call _ _) | refine IL.cS ttok ent25 [.own, .bor, .bor, .bor] false ?_ (hS := by exact hpe) | refine IL.cS ttok ent26 [.own, .bor, .bor, .bor] false ?_ (hS := by exact hpt) | ((first | ((first | refine IL.ag (fun h => ?_) (fun h => ?_) | refine DW.ag (fun h => ?_) (fun h => ?_) | refine IL.ap (fun h => ?_) (fun h => ?_) | refine DW.ap (fun h => ?_) (fun h => ?_)); (fail_if_success (focus (simp only [reduceCtorEq] at h)))) | refine WK.cn (fun h => ?_) (fun h => ?_)); all_goals first | (simp only [reduceCtorEq] at h; done) | (simp only [hsA, hsD, hsE, ne_eq] at h; first | done | (exfalso; omega; done) | skip) | skip))
                (refine Weak.renP 1 [0] hfx (fun k h => of_decide_eq_true h) (fun k hk => by obtain rfl : k = 0 := (by omega); exact ⟨rfl, _, rfl, rfl⟩) rfl ?_ ?_ rfl <;> (simp only [go_sem, reduceIte, exists_eq_left', exists_eq_left, Blk.mk.injEq] <;> (try and_intros) <;> first | rfl | omega))
            · refine WK.seq ?_
              cases dn
              · refine WK.join ⟨134, [(0, .sl 0 0 0 n), (1, ii a), (2, ii b), (3, ii lim1), (8, .v (.bool wb)), (9, .v (.bool wp)), (10, ii (b - a : Nat)), (11, ii pv)], [some ⟨true, 24, n, true, rwC d3, 0, false⟩]⟩ ?_ ?_
                · cases wb
                  · obtain rfl : d3 = d2 := by simpa using f7
                    repeat' (first | refine WK.seq ?_ | refine WK.reg ?_ | refine IL.nil ?_ | refine WK.skip ?_ | refine WK.block ?_ | refine WK.exit_here ?_ | refine WK.e1 ?_ | refine WK.e2 ?_ | refine WK.drawnS (id := 17) mixed [0] [12] [0, 0, 0, 0, 0, 0, 0, 0, 0, 0, 0, 0, 0, 1, 1] [0, 0, 0, 0, 0, 0, 0, 0, 0, 0, 0, 0, 0, 1, 1] (by decide +kernel) ?_ | refine DW.nil ?_ | (with_reducible refine IL.wr ?_ ?_; focus exact cW) | (with_reducible refine DW.wr ?_ ?_; focus exact cW) | refine IL.sg ttok ?_ | refine IL.nn ?_ | refine DW.re ttok ?_ | refine DW.rm ttok ?_ | refine DW.nn ?_ | refine DW.nb ?_ | refine IL.cS ttok ent16 [.own, .bor, .bor, .bor] false ?_ (hS := by exact hrec) | refine IL.cS ttok ent18 [.own, .bor, .bor] false ?_ (hS := by exact hins) | refine IL.cS ttok ent19 [.own, .bor, .bor] false ?_ (hS := by exact hhp) | refine IL.cS ttok ent20 [.own, .bor, .bor] false ?_ (hS := by exact hbk) | refine IL.cS ttok ent21 [.bor, .bor, .bor] true ?_ (hS := by exact hpv) | refine IL.cS ttok ent22 [.own, .bor, .bor] false ?_ (hS := by exact hrv) | refine IL.cS ttok ent23 [.own, .bor, .bor] false ?_ (hS := by exact hpi) | refine DW.cS ttok ent24 [.bor, .bor] true ?_ (hS := by exact less_call _ _) | refine IL.cS ttok ent25 [.own, .bor, .bor, .bor] false ?_ (hS := by exact hpe) | refine IL.cS ttok ent26 [.own, .bor, .bor, .bor] false ?_ (hS := by exact hpt) | ((first | ((first | refine IL.ag (fun h => ?_) (fun h => ?_) | refine DW.ag (fun h => ?_) (fun h => ?_) | refine IL.ap (fun h => ?_) (fun h => ?_) | refine DW.ap (fun h => ?_) (fun h => ?_)); (fail_if_success (focus (simp only [reduceCtorEq] at h)))) | refine WK.cn (fun h => ?_) (fun h => ?_)); all_goals first | (simp only [reduceCtorEq] at h; done) | (simp only [hsA, hsD, hsE, ne_eq] at h; first | done | (exfalso; omega; done) | skip) | skip))
                    (refine Weak.renP 1 [0] hfx (fun k h => of_decide_eq_true h) (fun k hk => by obtain rfl : k = 0 := (by omega); exact ⟨rfl, _, rfl, rfl⟩) rfl ?_ ?_ rfl <;> (simp only [go_sem, reduceIte, exists_eq_left', exists_eq_left, Blk.mk.injEq] <;> (try and_intros) <;> first | rfl | omega))
                  · cases wp
                    · obtain rfl : d3 = d2 := by simpa using f7
                      repeat' (first | refine WK.seq ?_ | refine WK.reg ?_ | refine IL.nil ?_ | refine WK.skip ?_ | refine WK.block ?_ | refine WK.exit_here ?_ | refine WK.e1 ?_ | refine WK.e2 ?_ | refine WK.drawnS (id := 17) mixed [0] [12] [0, 0, 0, 0, 0, 0, 0, 0, 0, 0, 0, 0, 0, 1, 1] [0, 0, 0, 0, 0, 0, 0, 0, 0, 0, 0, 0, 0, 1, 1] (by decide +kernel) ?_ | refine DW.nil ?_ | (with_reducible refine IL.wr ?_ ?_; focus exact cW) | (with_reducible refine DW.wr ?_ ?_; focus exact cW) | refine IL.sg ttok ?_ | refine IL.nn ?_ | refine DW.re ttok ?_ | refine DW.rm ttok ?_ | refine DW.nn ?_ | refine DW.nb ?_ | refine IL.cS ttok ent16 [.own, .bor, .bor, .bor] false ?_ (hS := by exact hrec) | refine IL.cS ttok ent18 [.own, .bor, .bor] false ?_ (hS := by exact hins) | refine IL.cS ttok ent19 [.own, .bor, .bor] false ?_ (hS := by exact hhp) | refine IL.cS ttok ent20 [.own, .bor, .bor] false ?_ (hS := by exact hbk) | refine IL.cS ttok ent21 [.bor, .bor, .bor] true ?_ (hS := by exact hpv) | refine IL.cS ttok ent22 [.own, .bor, .bor] false ?_ (hS := by exact hrv) | refine IL.cS ttok ent23 [.own, .bor, .bor] false ?_ (hS := by exact hpi) | refine DW.cS ttok ent24 [.bor, .bor] true ?_ (hS := by exact less_call _ _) | refine IL.cS ttok ent25 [.own, .bor, .bor, .bor] false ?_ (hS := by exact hpe) | refine IL.cS ttok ent26 [.own, .bor, .bor, .bor] false ?_ (hS := by exact hpt) | ((first | ((first | refine IL.ag (fun h => ?_) (fun h => ?_) | refine DW.ag (fun h => ?_) (fun h => ?_) | refine IL.ap (fun h => ?_) (fun h => ?_) | refine DW.ap (fun h => ?_) (fun h => ?_)); (fail_if_success (focus (simp only [reduceCtorEq] at h)))) | refine WK.cn (fun h => ?_) (fun h => ?_)); all_goals first | (simp only [reduceCtorEq] at h; done) | (simp only [hsA, hsD, hsE, ne_eq] at h; first | done | (exfalso; omega; done) | skip) | skip))
                      (refine Weak.renP 1 [0] hfx (fun k h => of_decide_eq_true h) (fun k hk => by obtain rfl : k = 0 := (by omega); exact ⟨rfl, _, rfl, rfl⟩) rfl ?_ ?_ rfl <;> (simp only [go_sem, reduceIte, exists_eq_left', exists_eq_left, Blk.mk.injEq] <;> (try and_intros) <;> first | rfl | omega))
                    · by_cases hin : hint = .increasing
                      · have g1 : (hintI hint == 1) = true := by rw [hintI_1]; simpa using hin
                        rw [if_pos (by rw [hin]; rfl)] at f7
                        have hpi := part_call d2 n a b n2 (by omega) h2 hsz
                        rw [← f7] at hpi
                        simp only at hpi
                        have FX := And.intro g1 hn0
                        repeat' (first | refine WK.seq ?_ | refine WK.reg ?_ | refine IL.nil ?_ | refine WK.skip ?_ | refine WK.block ?_ | refine WK.exit_here ?_ | refine WK.e1 ?_ | refine WK.e2 ?_ | refine WK.drawnS (id := 17) mixed [0] [12] [0, 0, 0, 0, 0, 0, 0, 0, 0, 0, 0, 0, 0, 1, 1] [0, 0, 0, 0, 0, 0, 0, 0, 0, 0, 0, 0, 0, 1, 1] (by decide +kernel) ?_ | refine DW.nil ?_ | (with_reducible refine IL.wr ?_ ?_; focus exact cW) | (with_reducible refine DW.wr ?_ ?_; focus exact cW) | refine IL.sgF ttok ?_ | refine IL.nn ?_ | refine DW.reF ttok ?_ | refine DW.rmF ttok ?_ | refine DW.nn ?_ | refine DW.nb ?_ | refine IL.cSF ttok ent16 [.own, .bor, .bor, .bor] false ?_ (hS := by exact hrec) | refine IL.cSF ttok ent18 [.own, .bor, .bor] false ?_ (hS := by exact hins) | refine IL.cSF ttok ent19 [.own, .bor, .bor] false ?_ (hS := by exact hhp) | refine IL.cSF ttok ent20 [.own, .bor, .bor] false ?_ (hS := by exact hbk) | refine IL.cSF ttok ent21 [.bor, .bor, .bor] true ?_ (hS := by exact hpv) | refine IL.cSF ttok ent22 [.own, .bor, .bor] false ?_ (hS := by exact hrv) | refine IL.cSF ttok ent23 [.own, .bor, .bor] false ?_ (hS := by exact hpi) | refine DW.cSF ttok ent24 [.bor, .bor] true ?_ (hS := by exact less_call _ _) | refine IL.cSF ttok ent25 [.own, .bor, .bor, .bor] false ?_ (hS := by exact hpe) | refine IL.cSF ttok ent26 [.own, .bor, .bor, .bor] false ?_ (hS := by exact hpt) | ((first | ((first | refine IL.ag (fun h => ?_) (fun h => ?_) | refine DW.ag (fun h => ?_) (fun h => ?_) | refine IL.ap (fun h => ?_) (fun h => ?_) | refine DW.ap (fun h => ?_) (fun h => ?_)); (fail_if_success (focus (simp only [reduceCtorEq] at h)))) | refine WK.cn (fun h => ?_) (fun h => ?_)); all_goals first | (simp only [reduceCtorEq] at h; done) | (simp only [hsA, hsD, hsE, ne_eq] at h; first | done | (exfalso; omega; done) | skip) | skip))
                        (refine Weak.renP 1 [0] hfx (fun k h => of_decide_eq_true h) (fun k hk => by obtain rfl : k = 0 := (by omega); exact ⟨rfl, _, rfl, rfl⟩) rfl ?_ ?_ rfl <;> (simp only [go_sem, reduceIte, exists_eq_left', exists_eq_left, Blk.mk.injEq] <;> (try and_intros) <;> first | rfl | omega))
                      · have g1 : (hintI hint == 1) = false := by rw [hintI_1]; simpa using hin
                        obtain rfl : d3 = d2 := by simpa [hin] using f7
                        have FX := g1
                        repeat' (first | refine WK.seq ?_ | refine WK.reg ?_ | refine IL.nil ?_ | refine WK.skip ?_ | refine WK.block ?_ | refine WK.exit_here ?_ | refine WK.e1 ?_ | refine WK.e2 ?_ | refine WK.drawnS (id := 17) mixed [0] [12] [0, 0, 0, 0, 0, 0, 0, 0, 0, 0, 0, 0, 0, 1, 1] [0, 0, 0, 0, 0, 0, 0, 0, 0, 0, 0, 0, 0, 1, 1] (by decide +kernel) ?_ | refine DW.nil ?_ | (with_reducible refine IL.wr ?_ ?_; focus exact cW) | (with_reducible refine DW.wr ?_ ?_; focus exact cW) | refine IL.sgF ttok ?_ | refine IL.nn ?_ | refine DW.reF ttok ?_ | refine DW.rmF ttok ?_ | refine DW.nn ?_ | refine DW.nb ?_ | refine IL.cSF ttok ent16 [.own, .bor, .bor, .bor] false ?_ (hS := by exact hrec) | refine IL.cSF ttok ent18 [.own, .bor, .bor] false ?_ (hS := by exact hins) | refine IL.cSF ttok ent19 [.own, .bor, .bor] false ?_ (hS := by exact hhp) | refine IL.cSF ttok ent20 [.own, .bor, .bor] false ?_ (hS := by exact hbk) | refine IL.cSF ttok ent21 [.bor, .bor, .bor] true ?_ (hS := by exact hpv) | refine IL.cSF ttok ent22 [.own, .bor, .bor] false ?_ (hS := by exact hrv) | refine IL.cSF ttok ent23 [.own, .bor, .bor] false ?_ (hS := by exact hpi) | refine DW.cSF ttok ent24 [.bor, .bor] true ?_ (hS := by exact less_call _ _) | refine IL.cSF ttok ent25 [.own, .bor, .bor, .bor] false ?_ (hS := by exact hpe) | refine IL.cSF ttok ent26 [.own, .bor, .bor, .bor] false ?_ (hS := by exact hpt) | ((first | ((first | refine IL.ag (fun h => ?_) (fun h => ?_) | refine DW.ag (fun h => ?_) (fun h => ?_) | refine IL.ap (fun h => ?_) (fun h => ?_) | refine DW.ap (fun h => ?_) (fun h => ?_)); (fail_if_success (focus (simp only [reduceCtorEq] at h)))) | refine WK.cn (fun h => ?_) (fun h => ?_)); all_goals first | (simp only [reduceCtorEq] at h; done) | (simp only [hsA, hsD, hsE, ne_eq] at h; first | done | (exfalso; omega; done) | skip) | skip))
                        (refine Weak.renP 1 [0] hfx (fun k h => of_decide_eq_true h) (fun k hk => by obtain rfl : k = 0 := (by omega); exact ⟨rfl, _, rfl, rfl⟩) rfl ?_ ?_ rfl <;> (simp only [go_sem, reduceIte, exists_eq_left', exists_eq_left, Blk.mk.injEq] <;> (try and_intros) <;> first | rfl | omega))
                · have heq := heq rfl
                  have hlf := hlf rfl
                  have hrt := hrt rfl
                  clear hdone f1 f2 f3 f4 f5 f6 f7 hpv hcb n1 n2
                  refine WK.seq ?_
                  have hl := rwC_len d3
                  rw [n3] at hl
                  have e2 : (rwC d3)[pv]? = some (uv d3[pv]!) := rwC_at (by omega)
                  have e1 : (rwC d3)[a - 1]? = some (uv d3[a - 1]!) := rwC_at (by omega)
                  have hw : a > 0 → (a : Int) - 1 = ((a - 1 : Nat) : Int) := by omega
                  by_cases hq : (decide (a > 0) && !ltInt d3[a - 1]! d3[pv]!) = true
                  · have pe := partitionEqual_bd d3 a b pv (by omega)
                    have hEq := heq hq ⟨pe.1, pe.2.1⟩
                    clear heq hlf hrt
                    have hpe := pareq_call d3 n a b pv n3 (by omega) h2 (by omega) hsz
                    generalize partitionEqual ltInt d3 a b pv = e at *
                    obtain ⟨mid, d4⟩ := e
                    simp only at pe hEq hpe
                    have hq1 : a > 0 ∧ ltInt d3[a - 1]! d3[pv]! = false := by simpa using hq
                    have ga : decide ((a : Int) > 0) = true := decide_eq_true (by omega)
                    have hle := hq1.2
                    have hw := hw hq1.1
                    have n4 : d4.size = n := by omega
                    generalize d3[a - 1]! = u at *
                    generalize d3[pv]! = v at *
                    generalize a - 1 = a1 at *
                    have FX := And.intro ga (And.intro e1 (And.intro e2 (And.intro hl (And.intro hw (And.intro hle hn0)))))
                    repeat' (first | refine WK.seq ?_ | refine WK.reg ?_ | refine IL.nil ?_ | refine WK.skip ?_ | refine WK.block ?_ | refine WK.exit_here ?_ | refine WK.e1 ?_ | refine WK.e2 ?_ | refine WK.drawnS (id := 17) mixed [0] [12] [0, 0, 0, 0, 0, 0, 0, 0, 0, 0, 0, 0, 0, 1, 1] [0, 0, 0, 0, 0, 0, 0, 0, 0, 0, 0, 0, 0, 1, 1] (by decide +kernel) ?_ | refine DW.nil ?_ | (with_reducible refine IL.wr ?_ ?_; focus exact cW) | (with_reducible refine DW.wr ?_ ?_; focus exact cW) | refine IL.sgF ttok ?_ | refine IL.nn ?_ | refine DW.reF ttok ?_ | refine DW.rmF ttok ?_ | refine DW.nn ?_ | refine DW.nb ?_ | refine IL.cSF ttok ent16 [.own, .bor, .bor, .bor] false ?_ (hS := by exact hrec) | refine IL.cSF ttok ent18 [.own, .bor, .bor] false ?_ (hS := by exact hins) | refine IL.cSF ttok ent19 [.own, .bor, .bor] false ?_ (hS := by exact hhp) | refine IL.cSF ttok ent20 [.own, .bor, .bor] false ?_ (hS := by exact hbk) | refine IL.cSF ttok ent21 [.bor, .bor, .bor] true ?_ (hS := by exact hpv) | refine IL.cSF ttok ent22 [.own, .bor, .bor] false ?_ (hS := by exact hrv) | refine IL.cSF ttok ent23 [.own, .bor, .bor] false ?_ (hS := by exact hpi) | refine DW.cSF ttok ent24 [.bor, .bor] true ?_ (hS := by exact less_call _ _) | refine IL.cSF ttok ent25 [.own, .bor, .bor, .bor] false ?_ (hS := by exact hpe) | refine IL.cSF ttok ent26 [.own, .bor, .bor, .bor] false ?_ (hS := by exact hpt) | ((first | ((first | refine IL.ag (fun h => ?_) (fun h => ?_) | refine DW.ag (fun h => ?_) (fun h => ?_) | refine IL.ap (fun h => ?_) (fun h => ?_) | refine DW.ap (fun h => ?_) (fun h => ?_)); (fail_if_success (focus (simp only [reduceCtorEq] at h)))) | refine WK.cn (fun h => ?_) (fun h => ?_)); all_goals first | (simp only [reduceCtorEq] at h; done) | (simp only [hsA, hsD, hsE, ne_eq] at h; first | done | (exfalso; omega; done) | skip) | skip))
                    refine ⟨(mid, b, lim1, wb, wp, d4), by simp only; omega, ⟨by simp only; omega, by simp only; omega, by simp only; omega, hl1, n4, hEq.symm⟩, ?_⟩
                    (refine Weak.renP 1 [0] hfx (fun k h => of_decide_eq_true h) (fun k hk => by obtain rfl : k = 0 := (by omega); exact ⟨rfl, _, rfl, rfl⟩) rfl ?_ ?_ rfl <;> (simp only [go_sem, reduceIte, exists_eq_left', exists_eq_left, Blk.mk.injEq] <;> (try and_intros) <;> first | rfl | omega))
                  · have hq2 : (decide (a > 0) && !ltInt d3[a - 1]! d3[pv]!) = false := by simpa using hq
                    refine WK.join ⟨134, [(0, .sl 0 0 0 n), (1, ii a), (2, ii b), (3, ii lim1), (8, .v (.bool wb)), (9, .v (.bool wp)), (10, ii (b - a : Nat)), (11, ii pv)], [some ⟨true, 24, n, true, rwC d3, 0, false⟩]⟩ ?_ ?_
                    · by_cases a0 : a > 0
                      · have ga : decide ((a : Int) > 0) = true := decide_eq_true (by omega)
                        have hle : ltInt d3[a - 1]! d3[pv]! = true := by rw [decide_eq_true a0] at hq2; simpa using hq2
                        have hw := hw a0
                        generalize d3[a - 1]! = u at *
                        generalize d3[pv]! = v at *
                        generalize a - 1 = a1 at *
                        have FX := And.intro ga (And.intro e1 (And.intro e2 (And.intro hl (And.intro hw hle))))
                        repeat' (first | refine WK.seq ?_ | refine WK.reg ?_ | refine IL.nil ?_ | refine WK.skip ?_ | refine WK.block ?_ | refine WK.exit_here ?_ | refine WK.e1 ?_ | refine WK.e2 ?_ | refine WK.drawnS (id := 17) mixed [0] [12] [0, 0, 0, 0, 0, 0, 0, 0, 0, 0, 0, 0, 0, 1, 1] [0, 0, 0, 0, 0, 0, 0, 0, 0, 0, 0, 0, 0, 1, 1] (by decide +kernel) ?_ | refine DW.nil ?_ | (with_reducible refine IL.wr ?_ ?_; focus exact cW) | (with_reducible refine DW.wr ?_ ?_; focus exact cW) | refine IL.sgF ttok ?_ | refine IL.nn ?_ | refine DW.reF ttok ?_ | refine DW.rmF ttok ?_ | refine DW.nn ?_ | refine DW.nb ?_ | refine IL.cSF ttok ent16 [.own, .bor, .bor, .bor] false ?_ (hS := by exact hrec) | refine IL.cSF ttok ent18 [.own, .bor, .bor] false ?_ (hS := by exact hins) | refine IL.cSF ttok ent19 [.own, .bor, .bor] false ?_ (hS := by exact hhp) | refine IL.cSF ttok ent20 [.own, .bor, .bor] false ?_ (hS := by exact hbk) | refine IL.cSF ttok ent21 [.bor, .bor, .bor] true ?_ (hS := by exact hpv) | refine IL.cSF ttok ent22 [.own, .bor, .bor] false ?_ (hS := by exact hrv) | refine IL.cSF ttok ent23 [.own, .bor, .bor] false ?_ (hS := by exact hpi) | refine DW.cSF ttok ent24 [.bor, .bor] true ?_ (hS := by exact less_call _ _) | refine IL.cSF ttok ent25 [.own, .bor, .bor, .bor] false ?_ (hS := by exact hpe) | refine IL.cSF ttok ent26 [.own, .bor, .bor, .bor] false ?_ (hS := by exact hpt) | ((first | ((first | refine IL.ag (fun h => ?_) (fun h => ?_) | refine DW.ag (fun h => ?_) (fun h => ?_) | refine IL.ap (fun h => ?_) (fun h => ?_) | refine DW.ap (fun h => ?_) (fun h => ?_)); (fail_if_success (focus (simp only [reduceCtorEq] at h)))) | refine WK.cn (fun h => ?_) (fun h => ?_)); all_goals first | (simp only [reduceCtorEq] at h; done) | (simp only [hsA, hsD, hsE, ne_eq] at h; first | done | (exfalso; omega; done) | skip) | skip))
                        (refine Weak.renP 1 [0] hfx (fun k h => of_decide_eq_true h) (fun k hk => by obtain rfl : k = 0 := (by omega); exact ⟨rfl, _, rfl, rfl⟩) rfl ?_ ?_ rfl <;> (simp only [go_sem, reduceIte, exists_eq_left', exists_eq_left, Blk.mk.injEq] <;> (try and_intros) <;> first | rfl | omega))
                      · have ga : decide ((a : Int) > 0) = false := decide_eq_false (by omega)
                        have FX := ga
                        repeat' (first | refine WK.seq ?_ | refine WK.reg ?_ | refine IL.nil ?_ | refine WK.skip ?_ | refine WK.block ?_ | refine WK.exit_here ?_ | refine WK.e1 ?_ | refine WK.e2 ?_ | refine WK.drawnS (id := 17) mixed [0] [12] [0, 0, 0, 0, 0, 0, 0, 0, 0, 0, 0, 0, 0, 1, 1] [0, 0, 0, 0, 0, 0, 0, 0, 0, 0, 0, 0, 0, 1, 1] (by decide +kernel) ?_ | refine DW.nil ?_ | (with_reducible refine IL.wr ?_ ?_; focus exact cW) | (with_reducible refine DW.wr ?_ ?_; focus exact cW) | refine IL.sgF ttok ?_ | refine IL.nn ?_ | refine DW.reF ttok ?_ | refine DW.rmF ttok ?_ | refine DW.nn ?_ | refine DW.nb ?_ | refine IL.cSF ttok ent16 [.own, .bor, .bor, .bor] false ?_ (hS := by exact hrec) | refine IL.cSF ttok ent18 [.own, .bor, .bor] false ?_ (hS := by exact hins) | refine IL.cSF ttok ent19 [.own, .bor, .bor] false ?_ (hS := by exact hhp) | refine IL.cSF ttok ent20 [.own, .bor, .bor] false ?_ (hS := by exact hbk) | refine IL.cSF ttok ent21 [.bor, .bor, .bor] true ?_ (hS := by exact hpv) | refine IL.cSF ttok ent22 [.own, .bor, .bor] false ?_ (hS := by exact hrv) | refine IL.cSF ttok ent23 [.own, .bor, .bor] false ?_ (hS := by exact hpi) | refine DW.cSF ttok ent24 [.bor, .bor] true ?_ (hS := by exact less_call _ _) | refine IL.cSF ttok ent25 [.own, .bor, .bor, .bor] false ?_ (hS := by exact hpe) | refine IL.cSF ttok ent26 [.own, .bor, .bor, .bor] false ?_ (hS := by exact hpt) | ((first | ((first | refine IL.ag (fun h => ?_) (fun h => ?_) | refine DW.ag (fun h => ?_) (fun h => ?_) | refine IL.ap (fun h => ?_) (fun h => ?_) | refine DW.ap (fun h => ?_) (fun h => ?_)); (fail_if_success (focus (simp only [reduceCtorEq] at h)))) | refine WK.cn (fun h => ?_) (fun h => ?_)); all_goals first | (simp only [reduceCtorEq] at h; done) | (simp only [hsA, hsD, hsE, ne_eq] at h; first | done | (exfalso; omega; done) | skip) | skip))
                        (refine Weak.renP 1 [0] hfx (fun k h => of_decide_eq_true h) (fun k hk => by obtain rfl : k = 0 := (by omega); exact ⟨rfl, _, rfl, rfl⟩) rfl ?_ ?_ rfl <;> (simp only [go_sem, reduceIte, exists_eq_left', exists_eq_left, Blk.mk.injEq] <;> (try and_intros) <;> first | rfl | omega))
                    · have pt := partition_bd d3 a b pv (by omega)
                      have hlf := hlf hq2 ⟨pt.1, pt.2.1⟩
                      have hrt := hrt hq2 ⟨pt.1, pt.2.1⟩
                      have hpt := part_call2 d3 n a b pv n3 (by omega) h2 (by omega) hsz
                      generalize partition ltInt d3 a b pv = e at *
                      obtain ⟨mid, ap, d4⟩ := e
                      simp only at pt hlf hrt hpt
                      have n4 : d4.size = n := by omega
                      have hq8 : Int.tdiv ((b - a : Nat) : Int) 8 = (((b - a) / 8 : Nat) : Int) := by rw [Int.tdiv_eq_ediv_of_nonneg (by omega)]; omega
                      have hm1 : (mid : Int) + 1 = ((mid + 1 : Nat) : Int) := by omega
                      have hma : (mid : Int) - (a : Int) = ((mid - a : Nat) : Int) := by omega
                      have hbm : (b : Int) - (mid : Int) = ((b - mid : Nat) : Int) := by omega
                      by_cases hm : mid - a < b - mid
                      · have hlf := hlf hm
                        have gm : decide (((mid - a : Nat) : Int) < ((b - mid : Nat) : Int)) = true := decide_eq_true (by omega)
                        have gb : decide (((mid - a : Nat) : Int) ≥ (((b - a) / 8 : Nat) : Int)) = decide (mid - a ≥ (b - a) / 8) := by rw [decide_eq_decide]; omega
                        have hrec := IH d4 a mid lim1 (by omega) n4 (by omega) (by omega) hl1
                        have n5 := pdq_size n hsz (mid - a + 1) a mid lim1 true true d4 (by omega) (by omega) (by omega) n4
                        generalize pdq ltInt d4 a mid lim1 true true = d5 at *
                        generalize decide (mid - a ≥ (b - a) / 8) = B at *
                        have FX := And.intro hq8 (And.intro hm1 (And.intro hma (And.intro hbm (And.intro gm (And.intro gb hn0)))))
                        repeat' (first | refine WK.seq ?_ | refine WK.reg ?_ | refine IL.nil ?_ | refine WK.skip ?_ | refine WK.block ?_ | refine WK.exit_here ?_ | refine WK.e1 ?_ | refine WK.e2 ?_ | refine WK.drawnS (id := 17) mixed [0] [12] [0, 0, 0, 0, 0, 0, 0, 0, 0, 0, 0, 0, 0, 1, 1] [0, 0, 0, 0, 0, 0, 0, 0, 0, 0, 0, 0, 0, 1, 1] (by decide +kernel) ?_ | refine DW.nil ?_ | (with_reducible refine IL.wr ?_ ?_; focus exact cW) | (with_reducible refine DW.wr ?_ ?_; focus exact cW) | refine IL.sgF ttok ?_ | refine IL.nn ?_ | refine DW.reF ttok ?_ | refine DW.rmF ttok ?_ | refine DW.nn ?_ | refine DW.nb ?_ | refine IL.cSF ttok ent16 [.own, .bor, .bor, .bor] false ?_ (hS := by exact hrec) | refine IL.cSF ttok ent18 [.own, .bor, .bor] false ?_ (hS := by exact hins) | refine IL.cSF ttok ent19 [.own, .bor, .bor] false ?_ (hS := by exact hhp) | refine IL.cSF ttok ent20 [.own, .bor, .bor] false ?_ (hS := by exact hbk) | refine IL.cSF ttok ent21 [.bor, .bor, .bor] true ?_ (hS := by exact hpv) | refine IL.cSF ttok ent22 [.own, .bor, .bor] false ?_ (hS := by exact hrv) | refine IL.cSF ttok ent23 [.own, .bor, .bor] false ?_ (hS := by exact hpi) | refine DW.cSF ttok ent24 [.bor, .bor] true ?_ (hS := by exact less_call _ _) | refine IL.cSF ttok ent25 [.own, .bor, .bor, .bor] false ?_ (hS := by exact hpe) | refine IL.cSF ttok ent26 [.own, .bor, .bor, .bor] false ?_ (hS := by exact hpt) | ((first | ((first | refine IL.ag (fun h => ?_) (fun h => ?_) | refine DW.ag (fun h => ?_) (fun h => ?_) | refine IL.ap (fun h => ?_) (fun h => ?_) | refine DW.ap (fun h => ?_) (fun h => ?_)); (fail_if_success (focus (simp only [reduceCtorEq] at h)))) | refine WK.cn (fun h => ?_) (fun h => ?_)); all_goals first | (simp only [reduceCtorEq] at h; done) | (simp only [hsA, hsD, hsE, ne_eq] at h; first | done | (exfalso; omega; done) | skip) | skip))
                        refine ⟨(mid + 1, b, lim1, B, ap, d5), by simp only; omega, ⟨by simp only; omega, by simp only; omega, by simp only; omega, hl1, n5, hlf.symm⟩, ?_⟩
                        (refine Weak.renP 1 [0] hfx (fun k h => of_decide_eq_true h) (fun k hk => by obtain rfl : k = 0 := (by omega); exact ⟨rfl, _, rfl, rfl⟩) rfl ?_ ?_ rfl <;> (simp only [go_sem, reduceIte, exists_eq_left', exists_eq_left, Blk.mk.injEq, hm1] <;> (try and_intros) <;> first | rfl | omega))
                      · have hrt := hrt hm
                        have gm : decide (((mid - a : Nat) : Int) < ((b - mid : Nat) : Int)) = false := decide_eq_false (by omega)
                        have gb : decide (((b - mid : Nat) : Int) ≥ (((b - a) / 8 : Nat) : Int)) = decide (b - mid ≥ (b - a) / 8) := by rw [decide_eq_decide]; omega
                        have hrec := IH d4 (mid + 1) b lim1 (by omega) n4 (by omega) (by omega) hl1
                        have n5 := pdq_size n hsz (b - mid + 1) (mid + 1) b lim1 true true d4 (by omega) (by omega) (by omega) n4
                        generalize pdq ltInt d4 (mid + 1) b lim1 true true = d5 at *
                        generalize decide (b - mid ≥ (b - a) / 8) = B at *
                        have FX := And.intro hq8 (And.intro hm1 (And.intro hma (And.intro hbm (And.intro gm (And.intro gb hn0)))))
                        repeat' (first | refine WK.seq ?_ | refine WK.reg ?_ | refine IL.nil ?_ | refine WK.skip ?_ | refine WK.block ?_ | refine WK.exit_here ?_ | refine WK.e1 ?_ | refine WK.e2 ?_ | refine WK.drawnS (id := 17) mixed [0] [12] [0, 0, 0, 0, 0, 0, 0, 0, 0, 0, 0, 0, 0, 1, 1] [0, 0, 0, 0, 0, 0, 0, 0, 0, 0, 0, 0, 0, 1, 1] (by decide +kernel) ?_ | refine DW.nil ?_ | (with_reducible refine IL.wr ?_ ?_; focus exact cW) | (with_reducible refine DW.wr ?_ ?_; focus exact cW) | refine IL.sgF ttok ?_ | refine IL.nn ?_ | refine DW.reF ttok ?_ | refine DW.rmF ttok ?_ | refine DW.nn ?_ | refine DW.nb ?_ | refine IL.cSF ttok ent16 [.own, .bor, .bor, .bor] false ?_ (hS := by exact hrec) | refine IL.cSF ttok ent18 [.own, .bor, .bor] false ?_ (hS := by exact hins) | refine IL.cSF ttok ent19 [.own, .bor, .bor] false ?_ (hS := by exact hhp) | refine IL.cSF ttok ent20 [.own, .bor, .bor] false ?_ (hS := by exact hbk) | refine IL.cSF ttok ent21 [.bor, .bor, .bor] true ?_ (hS := by exact hpv) | refine IL.cSF ttok ent22 [.own, .bor, .bor] false ?_ (hS := by exact hrv) | refine IL.cSF ttok ent23 [.own, .bor, .bor] false ?_ (hS := by exact hpi) | refine DW.cSF ttok ent24 [.bor, .bor] true ?_ (hS := by exact less_call _ _) | refine IL.cSF ttok ent25 [.own, .bor, .bor, .bor] false ?_ (hS := by exact hpe) | refine IL.cSF ttok ent26 [.own, .bor, .bor, .bor] false ?_ (hS := by exact hpt) | ((first | ((first | refine IL.ag (fun h => ?_) (fun h => ?_) | refine DW.ag (fun h => ?_) (fun h => ?_) | refine IL.ap (fun h => ?_) (fun h => ?_) | refine DW.ap (fun h => ?_) (fun h => ?_)); (fail_if_success (focus (simp only [reduceCtorEq] at h)))) | refine WK.cn (fun h => ?_) (fun h => ?_)); all_goals first | (simp only [reduceCtorEq] at h; done) | (simp only [hsA, hsD, hsE, ne_eq] at h; first | done | (exfalso; omega; done) | skip) | skip))
                        refine ⟨(a, mid, lim1, B, ap, d5), by simp only; omega, ⟨by simp only; omega, by simp only; omega, by simp only; omega, hl1, n5, hrt.symm⟩, ?_⟩
                        (refine Weak.renP 1 [0] hfx (fun k h => of_decide_eq_true h) (fun k hk => by obtain rfl : k = 0 := (by omega); exact ⟨rfl, _, rfl, rfl⟩) rfl ?_ ?_ rfl <;> (simp only [go_sem, reduceIte, exists_eq_left', exists_eq_left, Blk.mk.injEq] <;> (try and_intros) <;> first | rfl | omega))
              · by_cases hc : (wb && wp && decide (hint = .increasing)) = true
                · rw [if_pos hc] at f7
                  obtain ⟨⟨rfl, rfl⟩, hin⟩ : (wb = true ∧ wp = true) ∧ hint = .increasing := by simpa using hc
                  have g1 : (hintI hint == 1) = true := by rw [hintI_1]; simpa using hin
                  have hpi := part_call d2 n a b n2 (by omega) h2 hsz
                  rw [← f7] at hpi
                  simp only at hpi
                  have hd := hdone rfl
                  subst hd
                  have FX := And.intro g1 hn0
                  repeat' (first | refine WK.seq ?_ | refine WK.reg ?_ | refine IL.nil ?_ | refine WK.skip ?_ | refine WK.block ?_ | refine WK.exit_here ?_ | refine WK.e1 ?_ | refine WK.e2 ?_ | refine WK.drawnS (id := 17) mixed [0] [12] [0, 0, 0, 0, 0, 0, 0, 0, 0, 0, 0, 0, 0, 1, 1] [0, 0, 0, 0, 0, 0, 0, 0, 0, 0, 0, 0, 0, 1, 1] (by decide +kernel) ?_ | refine DW.nil ?_ | (with_reducible refine IL.wr ?_ ?_; focus exact cW) | (with_reducible refine DW.wr ?_ ?_; focus exact cW) | refine IL.sgF ttok ?_ | refine IL.nn ?_ | refine DW.reF ttok ?_ | refine DW.rmF ttok ?_ | refine DW.nn ?_ | refine DW.nb ?_ | refine IL.cSF ttok ent16 [.own, .bor, .bor, .bor] false ?_ (hS := by exact hrec) | refine IL.cSF ttok ent18 [.own, .bor, .bor] false ?_ (hS := by exact hins) | refine IL.cSF ttok ent19 [.own, .bor, .bor] false ?_ (hS := by exact hhp) | refine IL.cSF ttok ent20 [.own, .bor, .bor] false ?_ (hS := by exact hbk) | refine IL.cSF ttok ent21 [.bor, .bor, .bor] true ?_ (hS := by exact hpv) | refine IL.cSF ttok ent22 [.own, .bor, .bor] false ?_ (hS := by exact hrv) | refine IL.cSF ttok ent23 [.own, .bor, .bor] false ?_ (hS := by exact hpi) | refine DW.cSF ttok ent24 [.bor, .bor] true ?_ (hS := by exact less_call _ _) | refine IL.cSF ttok ent25 [.own, .bor, .bor, .bor] false ?_ (hS := by exact hpe) | refine IL.cSF ttok ent26 [.own, .bor, .bor, .bor] false ?_ (hS := by exact hpt) | ((first | ((first | refine IL.ag (fun h => ?_) (fun h => ?_) | refine DW.ag (fun h => ?_) (fun h => ?_) | refine IL.ap (fun h => ?_) (fun h => ?_) | refine DW.ap (fun h => ?_) (fun h => ?_)); (fail_if_success (focus (simp only [reduceCtorEq] at h)))) | refine WK.cn (fun h => ?_) (fun h => ?_)); all_goals first | (simp only [reduceCtorEq] at h; done) | (simp only [hsA, hsD, hsE, ne_eq] at h; first | done | (exfalso; omega; done) | skip) | skip))
                  all_goals try ((first | refine WK.ret ⟨.inr rfl, ?_⟩ | refine ⟨.inl rfl, ?_⟩ | refine ⟨.inl trivial, ?_⟩); refine Fin.o ?_ ?_ (h1 := by first | rfl | (simp only [go_sem, show Try.f16.results.toList = [] from rfl, reduceIte] <;> rfl)); rotate_left 1; (focus (first | rfl | skip)); all_goals try with_reducible rfl)
                  all_goals skip
                · rw [if_neg hc] at f7
                  simp at f7
end Go.Proofs.Ythneocdjknhgdaa.Su
/- slices.Sort at uint32. -/
namespace Go.Proofs.Ythneocdjknhgdaa.Su
open Go Go.Lift Go.Sort
set_option maxHeartbeats 4000000
set_option linter.unusedSimpArgs false
set_option linter.unusedVariables false
attribute [local irreducible] WK IL IP IG IW DW

theorem sort_arr (d : Array Int) (n : Nat) (hn : d.size = n) (h0 : 0 < n) (hsz : n < 256) : SCall Try.prog 14 [uO n d] (.tup []) [uO n (sort ltInt d)] := by
  unfold sort
  rw [hn]
  have hb := bitsLen_u8 n hsz
  have hbl := len_call n hsz
  have hpd := pdq_call n hsz h0 (n + 1) d 0 n (bitsLen n) (by omega) hn (by omega) (Nat.le_refl _) (by omega)
  rw [show (((0 : Nat) : Int)) = 0 from rfl] at hpd
  generalize pdq ltInt d 0 n (bitsLen n) true true = d' at *
  generalize bitsLen n = B at *
  refine SCall.of_body' (TT := TT) (fun k => decide (k < 1)) [false] ttok Try.func14 rfl (Nat.le_of_ble_eq_true rfl) rfl fun fx hfx => WK.top ?_
  simp only [impl, imp, argT, List.append_nil, List.map_nil, List.map_cons, List.nil_append, List.cons_append, List.length_cons, List.length_nil, show Try.f14.ntmps = 11 from rfl, Nat.zero_add, Nat.reduceAdd]
  have FX := h0
  repeat' (first | refine WK.seq ?_ | refine WK.reg ?_ | refine IL.nil ?_ | (with_reducible refine IL.wr ?_ ?_; focus exact cW) | refine IL.sgF ttok ?_ | refine IL.cSF ttok ent16 [.own, .bor, .bor, .bor] false ?_ (hS := by exact hpd) | refine IL.cSF ttok ent17 [.bor] true ?_ (hS := by exact hbl))
  all_goals try ((first | refine WK.ret ⟨.inr rfl, ?_⟩ | refine ⟨.inl rfl, ?_⟩ | refine ⟨.inl trivial, ?_⟩); refine Fin.o ?_ ?_ (h1 := by first | rfl | (simp only [go_sem, show Try.f14.results.toList = [] from rfl, reduceIte] <;> rfl)); rotate_left 1; (focus (first | rfl | skip)); all_goals try with_reducible rfl)
  all_goals skip
def srtL (K : List Int) : List Int := K.mergeSort fun x y => decide (x ≤ y)
theorem sort_call (K : List Int) (h0 : 0 < K.length) (hsz : K.length < 256) : SCall Try.prog 14 [.own 24 K.length true (encs u32C K)] (.tup []) [.own 24 K.length true (encs u32C (srtL K))] := by
  have h := sort_arr K.toArray K.length (by simp) h0 hsz
  unfold uO rwC at h
  rw [sortInt K] at h
  exact h
theorem ins_nil : SCall Try.prog 18 [.tr 0 [], ii 0, ii 0] (.tup []) [.tr 0 [], ii 0, ii 0] := by
  refine SCall.of_body' (TT := TT) (fun _ => false) [false, false, false] ttok Try.func18 rfl (Nat.le_of_ble_eq_true rfl) rfl fun fx hfx => WK.top ?_
  simp only [impl, imp, argT, List.append_nil, List.map_nil, List.nil_append, show Try.f18.ntmps = 49 from rfl, Nat.zero_add, Nat.reduceAdd]
  repeat' (first | refine WK.seq ?_ | refine WK.reg ?_ | refine IL.nil ?_ | refine WK.skip ?_ | refine WK.block ?_ | refine WK.exit_here ?_ | refine WK.e1 ?_ | refine WK.e2 ?_ | refine WK.drawnS (id := 4) mixed [] [13] [0, 0, 0, 0, 0, 0, 0, 0, 0, 0, 0, 0, 0, 0, 1] [0, 0, 0, 0, 0, 0, 0, 0, 0, 0, 0, 0, 0, 0, 1] (by decide +kernel) ?_ | refine WK.drawnS (id := 6) mixed [] [15, 17] [0, 0, 0, 0, 0, 0, 0, 0, 0, 0, 0, 0, 0, 0, 0, 0, 1, 1] [0, 0, 1, 1, 1, 0, 0, 0, 0, 0, 0, 0, 0, 0, 0, 0, 1, 1] (by decide +kernel) ?_ | refine DW.nil ?_ | (with_reducible refine IL.wr ?_ ?_; focus exact cW) | (with_reducible refine DW.wr ?_ ?_; focus exact cW) | refine IL.sg ttok ?_ | refine DW.re ttok ?_ | refine DW.rm ttok ?_ | refine DW.bk ttok ?_ | refine DW.nn ?_ | refine DW.nb ?_ | ((first | ((first | refine DW.ag (fun h => ?_) (fun h => ?_) | refine DW.ap (fun h => ?_) (fun h => ?_)); (fail_if_success (focus (simp only [reduceCtorEq] at h)))) | refine WK.cn (fun h => ?_) (fun h => ?_)); all_goals first | (simp only [reduceCtorEq] at h; done) | (simp only [hsA, hsD, hsE, ne_eq] at h; first | done | (exfalso; omega; done) | skip) | skip))
  refine WK.forS 0 (fun k => True) (fun k => ⟨49, [(0, .tr 0 []), (1, ii 0), (2, ii 0), (6, ii 1)], []⟩) ⟨trivial, ?_⟩ (fun k hk ho => absurd hk (by omega)) (fun ho => ?_)
  · (refine Weak.renS [] hfx rfl ?_ ?_ rfl <;> (simp only [go_sem, reduceIte, exists_eq_left', exists_eq_left, Blk.mk.injEq] <;> (try and_intros) <;> first | rfl | omega))
  · repeat' (first | refine WK.seq ?_ | refine WK.reg ?_ | refine IL.nil ?_ | refine WK.skip ?_ | refine WK.block ?_ | refine WK.exit_here ?_ | refine WK.e1 ?_ | refine WK.e2 ?_ | refine WK.drawnS (id := 4) mixed [] [13] [0, 0, 0, 0, 0, 0, 0, 0, 0, 0, 0, 0, 0, 0, 1] [0, 0, 0, 0, 0, 0, 0, 0, 0, 0, 0, 0, 0, 0, 1] (by decide +kernel) ?_ | refine WK.drawnS (id := 6) mixed [] [15, 17] [0, 0, 0, 0, 0, 0, 0, 0, 0, 0, 0, 0, 0, 0, 0, 0, 1, 1] [0, 0, 1, 1, 1, 0, 0, 0, 0, 0, 0, 0, 0, 0, 0, 0, 1, 1] (by decide +kernel) ?_ | refine DW.nil ?_ | (with_reducible refine IL.wr ?_ ?_; focus exact cW) | (with_reducible refine DW.wr ?_ ?_; focus exact cW) | refine IL.sg ttok ?_ | refine DW.re ttok ?_ | refine DW.rm ttok ?_ | refine DW.bk ttok ?_ | refine DW.nn ?_ | refine DW.nb ?_ | ((first | ((first | refine DW.ag (fun h => ?_) (fun h => ?_) | refine DW.ap (fun h => ?_) (fun h => ?_)); (fail_if_success (focus (simp only [reduceCtorEq] at h)))) | refine WK.cn (fun h => ?_) (fun h => ?_)); all_goals first | (simp only [reduceCtorEq] at h; done) | (simp only [hsA, hsD, hsE, ne_eq] at h; first | done | (exfalso; omega; done) | skip) | skip))
    all_goals try ((first | refine WK.ret ⟨.inr rfl, ?_⟩ | refine ⟨.inl rfl, ?_⟩ | refine ⟨.inl trivial, ?_⟩); refine Fin.o ?_ ?_ (h1 := by first | rfl | (simp only [go_sem, show Try.f18.results.toList = [] from rfl, reduceIte] <;> rfl)); rotate_left 1; (focus (first | rfl | skip)); all_goals try with_reducible rfl)
    all_goals skip
theorem pdq_nil : SCall Try.prog 16 [.tr 0 [], ii 0, ii 0, ii 0] (.tup []) [.tr 0 [], ii 0, ii 0, ii 0] := by
  refine SCall.of_body' (TT := TT) (fun _ => false) [false, false, false, false] ttok Try.func16 rfl (Nat.le_of_ble_eq_true rfl) rfl fun fx hfx => WK.top ?_
  simp only [impl, imp, argT, List.append_nil, List.map_nil, List.nil_append, show Try.f16.ntmps = 134 from rfl, Nat.zero_add, Nat.reduceAdd]
  repeat' (first | refine WK.seq ?_ | refine WK.reg ?_ | refine IL.nil ?_ | refine WK.skip ?_ | refine WK.block ?_ | refine WK.exit_here ?_ | refine WK.e1 ?_ | refine WK.e2 ?_ | refine WK.drawnS (id := 17) mixed [] [12] [0, 0, 0, 0, 0, 0, 0, 0, 0, 0, 0, 0, 0, 1, 1] [0, 0, 0, 0, 0, 0, 0, 0, 0, 0, 0, 0, 0, 1, 1] (by decide +kernel) ?_ | refine DW.nil ?_ | (with_reducible refine IL.wr ?_ ?_; focus exact cW) | (with_reducible refine DW.wr ?_ ?_; focus exact cW) | refine IL.sg ttok ?_ | refine IL.nn ?_ | refine DW.re ttok ?_ | refine DW.rm ttok ?_ | refine DW.nn ?_ | refine DW.nb ?_ | refine IL.cS ttok ent16 [.own, .bor, .bor, .bor] false ?_ (hS := by exact hpd) | refine IL.cS ttok ent18 [.bor, .bor, .bor] true ?_ (hS := by exact ins_nil) | ((first | ((first | refine IL.ag (fun h => ?_) (fun h => ?_) | refine DW.ag (fun h => ?_) (fun h => ?_) | refine IL.ap (fun h => ?_) (fun h => ?_) | refine DW.ap (fun h => ?_) (fun h => ?_)); (fail_if_success (focus (simp only [reduceCtorEq] at h)))) | refine WK.cn (fun h => ?_) (fun h => ?_)); all_goals first | (simp only [reduceCtorEq] at h; done) | (simp only [hsA, hsD, hsE, ne_eq] at h; first | done | (exfalso; omega; done) | skip) | skip))
  refine WK.forS 0 (fun k => True) (fun k => ⟨134, [(0, .tr 0 []), (1, ii 0), (2, ii 0), (3, ii 0), (8, .v (.bool true)), (9, .v (.bool true))], []⟩) ⟨trivial, ?_⟩ (fun k hk ho => absurd hk (by omega)) (fun ho => ?_)
  · (refine Weak.renS [] hfx rfl ?_ ?_ rfl <;> (simp only [go_sem, reduceIte, exists_eq_left', exists_eq_left, Blk.mk.injEq] <;> (try and_intros) <;> first | rfl | omega))
  · repeat' (first | refine WK.seq ?_ | refine WK.reg ?_ | refine IL.nil ?_ | refine WK.skip ?_ | refine WK.block ?_ | refine WK.exit_here ?_ | refine WK.e1 ?_ | refine WK.e2 ?_ | refine WK.drawnS (id := 17) mixed [] [12] [0, 0, 0, 0, 0, 0, 0, 0, 0, 0, 0, 0, 0, 1, 1] [0, 0, 0, 0, 0, 0, 0, 0, 0, 0, 0, 0, 0, 1, 1] (by decide +kernel) ?_ | refine DW.nil ?_ | (with_reducible refine IL.wr ?_ ?_; focus exact cW) | (with_reducible refine DW.wr ?_ ?_; focus exact cW) | refine IL.sg ttok ?_ | refine IL.nn ?_ | refine DW.re ttok ?_ | refine DW.rm ttok ?_ | refine DW.nn ?_ | refine DW.nb ?_ | refine IL.cS ttok ent16 [.own, .bor, .bor, .bor] false ?_ (hS := by exact hpd) | refine IL.cS ttok ent18 [.bor, .bor, .bor] true ?_ (hS := by exact ins_nil) | ((first | ((first | refine IL.ag (fun h => ?_) (fun h => ?_) | refine DW.ag (fun h => ?_) (fun h => ?_) | refine IL.ap (fun h => ?_) (fun h => ?_) | refine DW.ap (fun h => ?_) (fun h => ?_)); (fail_if_success (focus (simp only [reduceCtorEq] at h)))) | refine WK.cn (fun h => ?_) (fun h => ?_)); all_goals first | (simp only [reduceCtorEq] at h; done) | (simp only [hsA, hsD, hsE, ne_eq] at h; first | done | (exfalso; omega; done) | skip) | skip))
    all_goals try ((first | refine WK.ret ⟨.inr rfl, ?_⟩ | refine ⟨.inl rfl, ?_⟩ | refine ⟨.inl trivial, ?_⟩); refine Fin.o ?_ ?_ (h1 := by first | rfl | (simp only [go_sem, show Try.f16.results.toList = [] from rfl, reduceIte] <;> rfl)); rotate_left 1; (focus (first | rfl | skip)); all_goals try with_reducible rfl)
    all_goals skip
theorem sort_nil : SCall Try.prog 14 [.tr 0 []] (.tup []) [.tr 0 []] := by
  have hbl := len_call 0 (by decide)
  rw [show (((0 : Nat) : Int)) = 0 from rfl, show (((bitsLen 0 : Nat) : Int)) = 0 from rfl] at hbl
  refine SCall.of_body' (TT := TT) (fun _ => false) [false] ttok Try.func14 rfl (Nat.le_of_ble_eq_true rfl) rfl fun fx hfx => WK.top ?_
  simp only [impl, imp, argT, List.append_nil, List.map_nil, List.nil_append, show Try.f14.ntmps = 11 from rfl, Nat.zero_add, Nat.reduceAdd]
  repeat' (first | refine WK.seq ?_ | refine WK.reg ?_ | refine IL.nil ?_ | (with_reducible refine IL.wr ?_ ?_; focus exact cW) | refine IL.sg ttok ?_ | refine IL.cS ttok ent16 [.bor, .bor, .bor, .bor] true ?_ (hS := by exact pdq_nil) | refine IL.cS ttok ent17 [.bor] true ?_ (hS := by exact hbl))
  all_goals try ((first | refine WK.ret ⟨.inr rfl, ?_⟩ | refine ⟨.inl rfl, ?_⟩ | refine ⟨.inl trivial, ?_⟩); refine Fin.o ?_ ?_ (h1 := by first | rfl | (simp only [go_sem, show Try.f14.results.toList = [] from rfl, reduceIte] <;> rfl)); rotate_left 1; (focus (first | rfl | skip)); all_goals try with_reducible rfl)
  all_goals skip
theorem srtL_perm (K : List Int) : (srtL K).Perm K := List.mergeSort_perm _ _
theorem srtL_len (K : List Int) : (srtL K).length = K.length := (srtL_perm K).length_eq
theorem srtL_sorted (K : List Int) : (srtL K).Pairwise (· ≤ ·) := by
  have := List.pairwise_mergeSort (le := fun x y : Int => decide (x ≤ y)) (fun a b c h1 h2 => by simp at *; omega) (fun a b => by simp; omega) K
  exact this.imp fun h => by simpa using h
end Go.Proofs.Ythneocdjknhgdaa.Su
/- package log: Reply; the reference's Reply. -/
namespace Go.Proofs.Ythneocdjknhgdaa
open Go Go.Lift Go.Maps
set_option maxHeartbeats 4000000
set_option linter.unusedSimpArgs false
set_option linter.unusedVariables false
attribute [local irreducible] WK IL IP IG IW DW

def byL (l : List EnL) (R s : Int) : List UInt8 := match plcL l R s with
  | some i => match l[i]? with
    | some e => e.b
    | none => []
  | none => []
theorem plcL_some {l : List EnL} {R s : Int} {i : Nat} (h : plcL l R s = some i) : ∃ e, l[i]? = some e ∧ nmL e R s := by
  unfold plcL at h
  obtain ⟨hi, h1, _⟩ := List.findIdx?_eq_some_iff_getElem.1 h
  exact ⟨l[i], List.getElem?_eq_getElem hi, by simpa using h1⟩
theorem keptL_mem {l : List EnL} {R F T s : Int} : s ∈ keptL l R F T ↔ (∃ i, plcL l R s = some i) ∧ F ≤ s ∧ s ≤ T := by
  unfold keptL
  simp only [List.mem_map, List.mem_filter]
  constructor
  · rintro ⟨e, ⟨h1, h2⟩, rfl⟩
    unfold gpB at h2
    simp at h2
    refine ⟨?_, h2.2.1, h2.2.2⟩
    cases h : plcL l R e.s with
    | some i => exact ⟨i, rfl⟩
    | none => exact absurd ⟨h2.1, rfl⟩ (plcL_no.1 h e h1)
  · rintro ⟨⟨i, h⟩, h1, h2⟩
    obtain ⟨e, h3, h4, rfl⟩ := plcL_some h
    exact ⟨e, ⟨List.mem_of_getElem? h3, by unfold gpB; simp [h4, h1, h2]⟩, rfl⟩
def outL (l : List EnL) (R F T most : Int) : List (List UInt8) := ((Su.srtL (keptL l R F T)).map (byL l R)).take (min (keptL l R F T).length most.toNat)
theorem reply_call (l : List EnL) (z R F T most : Int) (hl : ∀ e ∈ l, eok e) (hd : Dif l) (hn : l.length < 256) (hb : ∀ e ∈ l, e.b.length ≤ 100000) (hR : rok R) :
    SCall Try.prog 7 [logO l z, gapI R F T, .v (.int .i64 most)] (.own 35 (min (keptL l R F T).length most.toNat) false (encs byC (outL l R F T most))) [logO l z, gapI R F T, .v (.int .i64 most)] := by
  have hKl : (keptL l R F T).length ≤ l.length := by unfold keptL; rw [List.length_map]; exact List.length_filter_le _ _
  by_cases hK : keptL l R F T = []
  · have e1 : outL l R F T most = [] := by unfold outL; rw [hK]; simp
    rw [e1, hK]
    simp only [List.length_nil, Nat.zero_min]
    cases l with
    | nil => exact reply_none0 [] z R F T most (by simp) hK Su.sort_nil
    | cons a l => exact reply_none1 (a :: l) z R F T most _ (ixl (a :: l)) (by omega) hK Su.sort_nil
  · have h0 : 0 < (keptL l R F T).length := List.length_pos_iff.2 hK
    have hne : l ≠ [] := by rintro rfl; exact hK rfl
    unfold logO outL
    rw [mapC_ne hne]
    refine reply_some l z R F T most _ (Su.srtL (keptL l R F T)) ((Su.srtL (keptL l R F T)).map (byL l R)) hl hd (by omega) hR rfl h0 (Su.srtL_len _) (by rw [List.length_map, Su.srtL_len]) (Su.sort_call _ h0 (by omega)) (fun x s hs => ?_)
    have hm : s ∈ keptL l R F T := (Su.srtL_perm _).mem_iff.1 (List.mem_of_getElem? hs)
    obtain ⟨⟨i, hi⟩, _, _⟩ := keptL_mem.1 hm
    obtain ⟨e, he, h4, rfl⟩ := plcL_some hi
    have hem := List.mem_of_getElem? he
    refine ⟨(hl e hem).2, i, e, hi, he, hb e hem, ?_⟩
    rw [List.getElem?_map, hs]
    simp only [Option.map_some]
    unfold byL
    rw [hi]
    simp [he]
def fndL (l : List EnL) (R F : Int) (k : Nat) : List (List UInt8) := (List.range k).filterMap fun j => if (plcL l R (F + (j : Nat))).isSome = true then some (byL l R (F + (j : Nat))) else none
theorem fndL_succ (l : List EnL) (R F : Int) (k : Nat) : fndL l R F (k + 1) = fndL l R F k ++ (if (plcL l R (F + (k : Nat))).isSome = true then [byL l R (F + (k : Nat))] else []) := by
  unfold fndL
  rw [List.range_succ, List.filterMap_append]
  congr 1
  split <;> simp_all
theorem fndL_le (l : List EnL) (R F : Int) (k : Nat) : (fndL l R F k).length ≤ k := by
  unfold fndL
  exact Nat.le_trans (List.length_filterMap_le _ _) (by simp)
theorem fndL_pre (l : List EnL) (R F : Int) (k : Nat) : ∀ j, ∃ t, fndL l R F (k + j) = fndL l R F k ++ t
  | 0 => ⟨[], by simp⟩
  | j + 1 => by
    obtain ⟨t, h⟩ := fndL_pre l R F k j
    rw [← Nat.add_assoc, fndL_succ, h, List.append_assoc]
    exact ⟨_, rfl⟩
theorem fndL_take (l : List EnL) (R F : Int) {k m M : Nat} (hkm : k ≤ m) (h : (fndL l R F k).length = M) : (fndL l R F m).take M = fndL l R F k := by
  obtain ⟨t, e⟩ := fndL_pre l R F k (m - k)
  rw [show k + (m - k) = m by omega] at e
  rw [e, ← h, List.take_left]
def strC (b : List UInt8) : List IV := [.v (strV b)]
instance : Cells strC 1 := ⟨fun _ => rfl, fun _ => rfl, fun _ => rfl⟩
theorem strC_length (b : List UInt8) : (strC b).length = 1 := rfl
def gapN (F T : Int) : Nat := (T + 1 - F).toNat
theorem refReply_call (l : List EnL) (R F T most : Int) (hn : l.length < 256) (hF : sok F) (hT : sok T) (hg : T ≤ F + 1000) :
    SCall Try.prog 8 [.tr l.length (encs entC l), .v (.int .u16 R), .v (.int .u32 F), .v (.int .u32 T), .v (.int .i64 most)] (.own 9 ((fndL l R F (gapN F T)).take most.toNat).length true (encs strC ((fndL l R F (gapN F T)).take most.toNat))) [.tr l.length (encs entC l), .v (.int .u16 R), .v (.int .u32 F), .v (.int .u32 T), .v (.int .i64 most)] := by
  have hG : gapN F T ≤ 1001 := by unfold gapN; omega
  have hF1 := hF
  have hT1 := hT
  unfold sok at hF1 hT1
  refine SCall.of_body' (TT := TT) (fun _ => false) [false, false, false, false, false] ttok Try.func8 rfl (Nat.le_of_ble_eq_true rfl) rfl fun fx hfx => WK.top ?_
  simp only [impl, imp, argT, List.append_nil, List.map_nil, List.nil_append, show Try.f8.ntmps = 51 from rfl, Nat.zero_add, Nat.reduceAdd]
  repeat' (first | refine WK.seq ?_ | refine WK.reg ?_ | refine IL.nil ?_ | refine WK.skip ?_ | refine WK.block ?_ | refine WK.exit_here ?_ | refine WK.e1 ?_ | refine WK.e2 ?_ | (with_reducible refine IL.wr ?_ ?_; focus exact cW) | refine IL.sg ttok ?_ | refine IL.nn ?_ | refine IL.cS ttok ent9 [.bor, .bor, .bor] true ?_ (hS := by exact hat) | ((first | ((first | refine IL.ag (fun h => ?_) (fun h => ?_) | refine IL.ap (fun h => ?_) (fun h => ?_)); (fail_if_success (focus (simp only [reduceCtorEq] at h)))) | refine WK.cn (fun h => ?_) (fun h => ?_)); all_goals first | (simp only [reduceCtorEq] at h; done) | (simp only [hsA, hsD, hsE, ne_eq] at h; first | done | (exfalso; omega; done) | skip) | skip))
  refine WK.forS 1001 (fun k => k ≤ gapN F T ∧ (fndL l R F k).length ≤ most.toNat) (fun k => ⟨51, [(0, .tr l.length (encs entC l)), (1, .v (.int .u16 R)), (2, .v (.int .u32 F)), (3, .v (.int .u32 T)), (4, .v (.int .i64 most)), (11, .sl 0 0 0 (fndL l R F k).length), (12, .v (.int .i64 k))], [some ⟨true, 9, (fndL l R F k).length, true, encs strC (fndL l R F k), 0, false⟩]⟩) ⟨⟨by omega, by simp [fndL]⟩, ?_⟩ (fun k hk ho => ?_) (fun ho => ?_)
  · (refine Weak.renS [1] hfx rfl ?_ ?_ rfl <;> (simp only [go_sem, reduceIte, exists_eq_left', exists_eq_left, Blk.mk.injEq, show fndL l R F 0 = [] from rfl, List.length_nil, encs_nil] <;> (try and_intros) <;> first | rfl | omega))
  · obtain ⟨ho1, ho2⟩ := ho
    have gk : decide ((k : Int) ≤ 1000) = true := decide_eq_true (by omega)
    have hlen := fndL_le l R F k
    by_cases hFT : F + (k : Int) > T
    · have hkg : k = gapN F T := by unfold gapN at ho1 ⊢; omega
      rw [show (fndL l R F (gapN F T)).take most.toNat = fndL l R F k by rw [← hkg]; exact List.take_of_length_le ho2]
      have g1 : decide (F + (k : Int) > T) = true := decide_eq_true hFT
      generalize fndL l R F k = Z at *
      have FX := And.intro gk g1
      repeat' (first | refine WK.seq ?_ | refine WK.reg ?_ | refine IL.nil ?_ | refine WK.skip ?_ | refine WK.block ?_ | refine WK.exit_here ?_ | refine WK.e1 ?_ | refine WK.e2 ?_ | (with_reducible refine IL.wr ?_ ?_; focus exact cW) | refine IL.sgF ttok ?_ | refine IL.nn ?_ | refine IL.cSF ttok ent9 [.bor, .bor, .bor] true ?_ (hS := by exact hat) | ((first | ((first | refine IL.ag (fun h => ?_) (fun h => ?_) | refine IL.ap (fun h => ?_) (fun h => ?_)); (fail_if_success (focus (simp only [reduceCtorEq] at h)))) | refine WK.cn (fun h => ?_) (fun h => ?_)); all_goals first | (simp only [reduceCtorEq] at h; done) | (simp only [hsA, hsD, hsE, ne_eq] at h; first | done | (exfalso; omega; done) | skip) | skip))
      all_goals try ((first | refine WK.ret ⟨.inr rfl, ?_⟩ | refine ⟨.inl rfl, ?_⟩ | refine ⟨.inl trivial, ?_⟩); refine Fin.o ?_ ?_ (h1 := by first | rfl | (simp only [go_sem, show Try.f8.results.toList = [.tmp 10] from rfl, reduceIte] <;> rfl)); rotate_left 1; (focus (first | rfl | skip)); all_goals try with_reducible rfl)
      all_goals skip
    · have g1 : decide (F + (k : Int) > T) = false := decide_eq_false hFT
      have hkg : k + 1 ≤ gapN F T := by unfold gapN at ho1 ⊢; omega
      by_cases hml : ((fndL l R F k).length : Int) ≥ most
      · rw [fndL_take l R F ho1 (show (fndL l R F k).length = most.toNat by omega)]
        have g2 : decide (((fndL l R F k).length : Int) ≥ most) = true := decide_eq_true hml
        generalize fndL l R F k = Z at *
        have FX := And.intro gk (And.intro g1 g2)
        repeat' (first | refine WK.seq ?_ | refine WK.reg ?_ | refine IL.nil ?_ | refine WK.skip ?_ | refine WK.block ?_ | refine WK.exit_here ?_ | refine WK.e1 ?_ | refine WK.e2 ?_ | (with_reducible refine IL.wr ?_ ?_; focus exact cW) | refine IL.sgF ttok ?_ | refine IL.nn ?_ | refine IL.cSF ttok ent9 [.bor, .bor, .bor] true ?_ (hS := by exact hat) | ((first | ((first | refine IL.ag (fun h => ?_) (fun h => ?_) | refine IL.ap (fun h => ?_) (fun h => ?_)); (fail_if_success (focus (simp only [reduceCtorEq] at h)))) | refine WK.cn (fun h => ?_) (fun h => ?_)); all_goals first | (simp only [reduceCtorEq] at h; done) | (simp only [hsA, hsD, hsE, ne_eq] at h; first | done | (exfalso; omega; done) | skip) | skip))
        all_goals try ((first | refine WK.ret ⟨.inr rfl, ?_⟩ | refine ⟨.inl rfl, ?_⟩ | refine ⟨.inl trivial, ?_⟩); refine Fin.o ?_ ?_ (h1 := by first | rfl | (simp only [go_sem, show Try.f8.results.toList = [.tmp 10] from rfl, reduceIte] <;> rfl)); rotate_left 1; (focus (first | rfl | skip)); all_goals try with_reducible rfl)
        all_goals skip
      · have g2 : decide (((fndL l R F k).length : Int) ≥ most) = false := decide_eq_false hml
        have hat := at_call l R (F + (k : Int)) (by omega)
        have hw : (k : Int) + 1 = ((k + 1 : Nat) : Int) := by omega
        have hsu := fndL_succ l R F k
        cases hp : plcL l R (F + (k : Int)) with
        | none =>
          have e0 : atL l R (F + (k : Int)) = -1 := by unfold atL; rw [hp]
          rw [hp] at hsu
          simp only [Option.isSome_none, Bool.false_eq_true, if_false, List.append_nil] at hsu
          rw [e0] at hat
          rw [hsu]
          generalize fndL l R F k = Z at *
          have FX := And.intro gk (And.intro g1 g2)
          repeat' (first | refine WK.seq ?_ | refine WK.reg ?_ | refine IL.nil ?_ | refine WK.skip ?_ | refine WK.block ?_ | refine WK.exit_here ?_ | refine WK.e1 ?_ | refine WK.e2 ?_ | (with_reducible refine IL.wr ?_ ?_; focus exact cW) | refine IL.sgF ttok ?_ | refine IL.nn ?_ | refine IL.cSF ttok ent9 [.bor, .bor, .bor] true ?_ (hS := by exact hat) | ((first | ((first | refine IL.ag (fun h => ?_) (fun h => ?_) | refine IL.ap (fun h => ?_) (fun h => ?_)); (fail_if_success (focus (simp only [reduceCtorEq] at h)))) | refine WK.cn (fun h => ?_) (fun h => ?_)); all_goals first | (simp only [reduceCtorEq] at h; done) | (simp only [hsA, hsD, hsE, ne_eq] at h; first | done | (exfalso; omega; done) | skip) | skip))
          refine ⟨⟨hkg, ho2⟩, ?_⟩
          (refine Weak.renS [0] hfx rfl ?_ ?_ rfl <;> (simp only [go_sem, reduceIte, exists_eq_left', exists_eq_left, Blk.mk.injEq, hw] <;> (try and_intros) <;> first | rfl | omega))
        | some i =>
          obtain ⟨e, he, _⟩ := plcL_some hp
          have hil := (List.getElem?_eq_some_iff.1 he).1
          have e0 : atL l R (F + (k : Int)) = (i : Nat) := by unfold atL; rw [hp]
          have e1 : byL l R (F + (k : Int)) = e.b := by unfold byL; rw [hp]; simp [he]
          rw [hp, e1] at hsu
          simp only [Option.isSome_some, if_true] at hsu
          rw [e0] at hat
          have hld : (encs entC l)[i * 3 + 2]? = some (.v (strV e.b)) := encs_get entC_length he (by decide)
          have hle : i * 3 + 3 ≤ l.length * 3 := by omega
          have hne : encs entC l ≠ [] := encs_ne entC_length (by decide) he
          have g3 : decide (((i : Nat) : Int) ≥ 0) = true := decide_eq_true (by omega)
          have hcs : (encs strC (fndL l R F k)).take (fndL l R F k).length ++ [.v (strV e.b)] = encs strC (fndL l R F (k + 1)) := by
            rw [List.take_of_length_le (by rw [encs_length strC_length]; omega), hsu]
            exact encs_snoc (f := strC) _ e.b
          have hln : (fndL l R F (k + 1)).length = (fndL l R F k).length + 1 := by rw [hsu]; simp
          have ho3 : (fndL l R F (k + 1)).length ≤ most.toNat := by omega
          clear hsu
          generalize fndL l R F (k + 1) = Z' at *
          generalize fndL l R F k = Z at *
          have FX := And.intro gk (And.intro g1 (And.intro g2 (And.intro hld (And.intro hle g3))))
          repeat' (first | refine WK.seq ?_ | refine WK.reg ?_ | refine IL.nil ?_ | refine WK.skip ?_ | refine WK.block ?_ | refine WK.exit_here ?_ | refine WK.e1 ?_ | refine WK.e2 ?_ | (with_reducible refine IL.wr ?_ ?_; focus exact cW) | refine IL.sgF ttok ?_ | refine IL.nn ?_ | refine IL.cSF ttok ent9 [.bor, .bor, .bor] true ?_ (hS := by exact hat) | ((first | ((first | refine IL.ag (fun h => ?_) (fun h => ?_) | refine IL.ap (fun h => ?_) (fun h => ?_)); (fail_if_success (focus (simp only [reduceCtorEq] at h)))) | refine WK.cn (fun h => ?_) (fun h => ?_)); all_goals first | (simp only [reduceCtorEq] at h; done) | (simp only [hsA, hsD, hsE, ne_eq] at h; first | done | (exfalso; omega; done) | skip) | skip))
          refine ⟨⟨hkg, ho3⟩, ?_⟩
          (refine Weak.renS [0] hfx rfl ?_ ?_ rfl <;> (simp only [go_sem, reduceIte, exists_eq_left', exists_eq_left, Blk.mk.injEq, hw, hln, hcs] <;> (try and_intros) <;> first | rfl | omega))
  · obtain ⟨ho1, ho2⟩ := ho
    have gk : decide (((1001 : Nat) : Int) ≤ 1000) = false := rfl
    have hkg : gapN F T = 1001 := by omega
    rw [hkg, List.take_of_length_le ho2]
    generalize fndL l R F 1001 = Z at *
    generalize ((1001 : Nat) : Int) = kk at *
    have FX := gk
    repeat' (first | refine WK.seq ?_ | refine WK.reg ?_ | refine IL.nil ?_ | refine WK.skip ?_ | refine WK.block ?_ | refine WK.exit_here ?_ | refine WK.e1 ?_ | refine WK.e2 ?_ | (with_reducible refine IL.wr ?_ ?_; focus exact cW) | refine IL.sgF ttok ?_ | refine IL.nn ?_ | refine IL.cSF ttok ent9 [.bor, .bor, .bor] true ?_ (hS := by exact hat) | ((first | ((first | refine IL.ag (fun h => ?_) (fun h => ?_) | refine IL.ap (fun h => ?_) (fun h => ?_)); (fail_if_success (focus (simp only [reduceCtorEq] at h)))) | refine WK.cn (fun h => ?_) (fun h => ?_)); all_goals first | (simp only [reduceCtorEq] at h; done) | (simp only [hsA, hsD, hsE, ne_eq] at h; first | done | (exfalso; omega; done) | skip) | skip))
    all_goals try ((first | refine WK.ret ⟨.inr rfl, ?_⟩ | refine ⟨.inl rfl, ?_⟩ | refine ⟨.inl trivial, ?_⟩); refine Fin.o ?_ ?_ (h1 := by first | rfl | (simp only [go_sem, show Try.f8.results.toList = [.tmp 10] from rfl, reduceIte] <;> rfl)); rotate_left 1; (focus (first | rfl | skip)); all_goals try with_reducible rfl)
    all_goals skip
end Go.Proofs.Ythneocdjknhgdaa
/- package log: the two answers are one (plain); the document's example. -/
namespace Go.Proofs.Ythneocdjknhgdaa
open Go Go.Lift Go.Maps
set_option maxHeartbeats 4000000
set_option linter.unusedSimpArgs false
set_option linter.unusedVariables false
attribute [local irreducible] WK IL IP IG IW DW

theorem rise_eq : ∀ {a b : List Int}, a.Pairwise (· < ·) → b.Pairwise (· < ·) → (∀ x, x ∈ a ↔ x ∈ b) → a = b
  | [], [], _, _, _ => rfl
  | [], y :: b, _, _, h => by have := (h y).2 (by simp); simp at this
  | x :: a, [], _, _, h => by have := (h x).1 (by simp); simp at this
  | x :: a, y :: b, ha, hb, h => by
    obtain ⟨a1, a2⟩ := List.pairwise_cons.1 ha
    obtain ⟨b1, b2⟩ := List.pairwise_cons.1 hb
    have e : x = y := by
      have h1 := (h x).1 (by simp)
      have h2 := (h y).2 (by simp)
      rcases List.mem_cons.1 h1 with h1 | h1
      · exact h1
      · rcases List.mem_cons.1 h2 with h2 | h2
        · exact h2.symm
        · have := b1 x h1; have := a1 y h2; omega
    subst e
    rw [rise_eq a2 b2 fun z => ?_]
    constructor
    · intro hz
      rcases List.mem_cons.1 ((h z).1 (List.mem_cons_of_mem _ hz)) with e | hz2
      · subst e; have := a1 z hz; omega
      · exact hz2
    · intro hz
      rcases List.mem_cons.1 ((h z).2 (List.mem_cons_of_mem _ hz)) with e | hz2
      · subst e; have := b1 z hz; omega
      · exact hz2
theorem keptL_nodup {l : List EnL} (hd : Dif l) (R F T : Int) : (keptL l R F T).Nodup := by
  unfold keptL
  rw [List.nodup_iff_pairwise_ne, List.pairwise_map]
  have h2 : (l.filter (gpB R F T)).Pairwise fun a b => ¬ nmL a b.r b.s := List.Pairwise.filter _ hd
  refine List.Pairwise.imp_of_mem (fun {a b} ha hb h e => h ⟨?_, e⟩) h2
  have ha := (List.mem_filter.1 ha).2
  have hb := (List.mem_filter.1 hb).2
  unfold gpB at ha hb
  simp at ha hb
  rw [ha.1, hb.1]
def seqL (l : List EnL) (R F T : Int) : List Int := ((List.range (gapN F T)).map fun j => F + (j : Nat)).filter fun s => (plcL l R s).isSome
theorem seqL_rise (l : List EnL) (R F T : Int) : (seqL l R F T).Pairwise (· < ·) := by
  unfold seqL
  refine List.Pairwise.filter _ ?_
  rw [List.pairwise_map]
  exact List.pairwise_lt_range.imp fun h => by omega
theorem srt_seq {l : List EnL} (hd : Dif l) (R F T : Int) : Su.srtL (keptL l R F T) = seqL l R F T := by
  have h1 := Su.srtL_sorted (keptL l R F T)
  have h2 : (Su.srtL (keptL l R F T)).Nodup := (Su.srtL_perm _).nodup_iff.2 (keptL_nodup hd R F T)
  refine rise_eq ?_ (seqL_rise l R F T) fun x => ?_
  · rw [List.nodup_iff_pairwise_ne] at h2
    exact (h1.and h2).imp fun h => by omega
  · rw [(Su.srtL_perm _).mem_iff, keptL_mem]
    unfold seqL gapN
    simp only [List.mem_filter, List.mem_map, List.mem_range, Option.isSome_iff_exists]
    constructor
    · rintro ⟨h, h3, h4⟩
      exact ⟨⟨(x - F).toNat, by omega, by omega⟩, h⟩
    · rintro ⟨⟨j, hj, rfl⟩, h⟩
      exact ⟨h, by omega, by omega⟩
theorem fnd_seq (l : List EnL) (R F T : Int) : fndL l R F (gapN F T) = (seqL l R F T).map (byL l R) := by
  unfold fndL seqL
  generalize List.range (gapN F T) = rs
  induction rs with
  | nil => rfl
  | cons j rs ih =>
    rw [List.filterMap_cons, List.map_cons, List.filter_cons]
    by_cases h : (plcL l R (F + (j : Nat))).isSome = true
    · simp only [h, if_true]; rw [ih]; rfl
    · simp only [h]; rw [if_neg (by simp), if_neg (by simp)]; exact ih
theorem out_fnd {l : List EnL} (hd : Dif l) (R F T most : Int) : outL l R F T most = (fndL l R F (gapN F T)).take most.toNat := by
  unfold outL
  have h := Su.srtL_len (keptL l R F T)
  rw [fnd_seq, ← srt_seq hd, ← h]
  generalize Su.srtL (keptL l R F T) = S
  rw [show S.length = (S.map (byL l R)).length by simp]
  rw [Nat.min_comm]
  exact (List.take_eq_take_min).symm
theorem outL_len (l : List EnL) (R F T most : Int) : (outL l R F T most).length = min (keptL l R F T).length most.toNat := by
  unfold outL
  rw [List.length_take, List.length_map, Su.srtL_len]
  omega
end Go.Proofs.Ythneocdjknhgdaa
/- package log: the document's example. -/
namespace Go.Proofs.Ythneocdjknhgdaa
open Go Go.Lift Go.Maps
set_option maxHeartbeats 4000000
set_option linter.unusedSimpArgs false
set_option linter.unusedVariables false
attribute [local irreducible] WK IL IP IG IW DW

def aL1 : List EnL := addL [] 1 3 [99]
def aL2 : List EnL := addL aL1 1 1 [97]
theorem aL2_eq : aL2 = [⟨1, 3, [99]⟩, ⟨1, 1, [97]⟩] := rfl
theorem aL2_dif : Dif aL2 := by unfold Dif; rw [aL2_eq]; simp [nmL]
theorem aL2_ok : ∀ e ∈ aL2, eok e := by rw [aL2_eq]; intro e he; simp at he; rcases he with rfl | rfl <;> (unfold eok rok sok; simp)
theorem anchor_reply (z : Int) : SCall Try.prog 7 [logO aL2 z, gapI 1 1 3, .v (.int .i64 5)] (.own 35 2 false (encs byC [[97], [99]])) [logO aL2 z, gapI 1 1 3, .v (.int .i64 5)] := by
  have h := reply_call aL2 z 1 1 3 5 aL2_ok aL2_dif (by decide) (by rw [aL2_eq]; intro e he; simp at he; rcases he with rfl | rfl <;> simp) (by unfold rok; omega)
  have h1 : outL aL2 1 1 3 5 = [[97], [99]] := by rw [out_fnd aL2_dif]; decide +kernel
  have h2 := outL_len aL2 1 1 3 5
  rw [h1] at h2 h
  rw [← h2] at h
  exact h
theorem anchor_call : SCall Try.prog 5 [] (.v (.bool true)) [] := by
  have hp1 := put_new [] 0 1 3 [99] (by simp) List.Pairwise.nil (by unfold rok; omega) (by unfold sok; omega) rfl (by decide) (by decide) (by omega)
  have hp2 := put_new aL1 (0 + (([99] : List UInt8).length : Int)) 1 1 [97] (by intro e he; simp [aL1] at he; subst he; unfold eok rok sok; simp) (by unfold Dif aL1; simp) (by unfold rok; omega) (by unfold sok; omega) rfl (by decide) (by decide) (by decide)
  have hrp := anchor_reply (0 + (([99] : List UInt8).length : Int) + (([97] : List UInt8).length : Int))
  refine SCall.of_body' (TT := TT) (fun _ => false) [] ttok Try.func5 rfl (Nat.le_of_ble_eq_true rfl) rfl fun fx hfx => WK.top ?_
  simp only [impl, imp, argT, List.append_nil, List.map_nil, List.nil_append, show Try.f5.ntmps = 30 from rfl, Nat.zero_add, Nat.reduceAdd]
  repeat' (first | refine WK.seq ?_ | refine WK.reg ?_ | refine IL.nil ?_ | (with_reducible refine IL.wr ?_ ?_; focus exact cW) | refine IL.bytesConst ttok rfl rfl rfl rfl rfl rfl rfl rfl rfl rfl rfl (by decide) (by decide) rfl rfl (by first | decide | simp) (by first | decide | simp) ?_ | refine IL.sg ttok ?_ | refine IL.nn ?_ | refine IL.cS ttok ent6 [.own, .bor, .bor] false ?_ (hS := by first | exact hp1 | exact hp2) | refine IL.cS ttok ent7 [.own, .bor, .bor] false ?_ (hS := by exact hrp) | (((first | refine IL.ag (fun h => ?_) (fun h => ?_) | refine IL.ap (fun h => ?_) (fun h => ?_)); (fail_if_success (focus (simp only [reduceCtorEq] at h)))); all_goals first | (simp only [reduceCtorEq] at h; done) | (simp only [hsA, hsD, hsE, ne_eq] at h; first | done | (exfalso; omega; done) | skip) | skip))
  all_goals try ((first | refine WK.ret ⟨.inr rfl, ?_⟩ | refine ⟨.inl rfl, ?_⟩ | refine ⟨.inl trivial, ?_⟩); refine Fin.o ?_ ?_ (h1 := by first | rfl | (simp only [go_sem, show Try.f5.results.toList = [.tmp 0] from rfl, reduceIte] <;> rfl)); rotate_left 1; (focus (first | rfl | skip)); all_goals try with_reducible rfl)
  all_goals skip
end Go.Proofs.Ythneocdjknhgdaa
/- package log: LogReplies' function. -/
namespace Go.Proofs.Ythneocdjknhgdaa
open Go Go.Lift Go.Maps
set_option maxHeartbeats 8000000
set_option linter.unusedSimpArgs false
set_option linter.unusedVariables false
attribute [local irreducible] WK IL IP IG IW DW

structure PuV where
  r : Int
  s : Int
  b : List UInt8
def puC (p : PuV) : List IV := [.v (.int .u16 p.r), .v (.int .u32 p.s), .tr p.b.length (bcells p.b)]
instance : CellsT puC 3 := ⟨fun _ => rfl, fun _ => rfl⟩
theorem puC_length (p : PuV) : (puC p).length = 3 := rfl
def stp (l : List EnL) (p : PuV) : List EnL := if plcL l p.r p.s = none then addL l p.r p.s p.b else l
def stL (ps : List PuV) : List EnL := ps.foldl stp []
theorem stL_snoc (ps : List PuV) (p : PuV) : stL (ps ++ [p]) = stp (stL ps) p := by unfold stL; rw [List.foldl_append]; rfl
def okP (p : PuV) : Prop := rok p.r ∧ sok p.s
def szL (l : List EnL) : Nat := (l.map (·.b.length)).sum
theorem szL_add (l : List EnL) (r s : Int) (b : List UInt8) : szL (addL l r s b) = szL l + b.length := by simp [szL]
structure Inv (l : List EnL) (n : Nat) : Prop where
  dif : Dif l
  ok : ∀ e ∈ l, eok e
  bl : ∀ e ∈ l, e.b.length ≤ 500
  len : l.length ≤ n
  sz : szL l ≤ 500 * n
theorem Inv.step {l : List EnL} {n : Nat} {p : PuV} (h : Inv l n) (h1 : okP p) (h2 : p.b.length ≤ 500) : Inv (stp l p) (n + 1) := by
  unfold stp
  split
  · rename_i hp
    refine ⟨?_, ?_, ?_, ?_, ?_⟩
    · unfold Dif addL
      rw [List.pairwise_append]
      refine ⟨h.dif, by simp, fun a ha b hb => ?_⟩
      simp at hb
      subst hb
      exact plcL_no.1 hp a ha
    · intro e he
      rcases List.mem_append.1 he with he | he
      · exact h.ok e he
      · simp at he; subst he; exact h1
    · intro e he
      rcases List.mem_append.1 he with he | he
      · exact h.bl e he
      · simp at he; subst he; exact h2
    · have := h.len; rw [addL_len]; omega
    · have := h.sz; rw [szL_add]; omega
  · have := h.len; have := h.sz
    exact ⟨h.dif, h.ok, h.bl, by omega, by omega⟩
theorem inv_nil : Inv [] 0 := ⟨List.Pairwise.nil, by simp, by simp, by simp, by simp [szL]⟩
theorem stp_ne {l : List EnL} {p : PuV} : stp l p ≠ [] := by
  unfold stp
  split
  · simp
  · rename_i h; rintro rfl; exact h rfl
theorem stL_take {ps : List PuV} {k : Nat} {p : PuV} (h : ps[k]? = some p) : stL (ps.take (k + 1)) = stp (stL (ps.take k)) p := by
  rw [List.take_add_one, h]; exact stL_snoc _ _
theorem stL_ne {ps : List PuV} {k : Nat} (h : k < ps.length) : stL (ps.take (k + 1)) ≠ [] := by
  rw [stL_take (List.getElem?_eq_getElem h)]; exact stp_ne
theorem inv_take {ps : List PuV} (hp : ∀ p ∈ ps, okP p) : ∀ k, k ≤ ps.length → (∀ p ∈ ps.take k, p.b.length ≤ 500) → Inv (stL (ps.take k)) k
  | 0, _, _ => by simpa [stL] using inv_nil
  | k + 1, hk, h => by
    have hx : ps[k]? = some ps[k] := List.getElem?_eq_getElem (by omega)
    have ht : ps.take (k + 1) = ps.take k ++ [ps[k]] := by rw [List.take_add_one, hx]; rfl
    rw [stL_take hx]
    refine Inv.step (inv_take hp k (by omega) fun p hq => h p (by rw [ht]; exact List.mem_append_left _ hq)) (hp _ (List.getElem_mem _)) (h _ (by rw [ht]; exact List.mem_append_right _ (List.mem_singleton.2 rfl)))
theorem replies_call (ps : List PuV) (R F T most : Int) (hp : ∀ p ∈ ps, okP p) (hR : rok R) (hF : sok F) (hT : sok T) :
    SCall Try.prog 3 [.tr ps.length (encs puC ps), gapI R F T, .v (.int .i64 most)] (.v (.bool true)) [.tr ps.length (encs puC ps), gapI R F T, .v (.int .i64 most)] := by
  have hF1 := hF
  have hT1 := hT
  unfold sok at hF1 hT1
  by_cases h200 : (ps.length : Int) > 200
  · have g1 : decide ((ps.length : Int) > 200) = true := decide_eq_true h200
    refine SCall.of_body' (TT := TT) (fun _ => false) [false, false, false] ttok Try.func3 rfl (Nat.le_of_ble_eq_true rfl) rfl fun fx hfx => WK.top ?_
    simp only [impl, imp, argT, List.append_nil, List.map_nil, List.nil_append, show Try.f3.ntmps = 97 from rfl, Nat.zero_add, Nat.reduceAdd]
    have FX := g1
    repeat' (first | refine WK.seq ?_ | refine WK.reg ?_ | refine IL.nil ?_ | refine WK.skip ?_ | refine WK.block ?_ | refine WK.exit_here ?_ | refine WK.e1 ?_ | refine WK.e2 ?_ | refine WK.drawnS (id := 15) mixed [1, 2, 3] [2, 11] [0, 0, 0, 0, 0, 0, 0, 0, 0, 0, 0, 1, 2, 2] [0, 0, 0, 1, 1, 1, 1, 1, 1, 1, 1, 1, 2, 2] (by decide +kernel) ?_ | refine WK.drawnS (id := 21) mixed [1, 2, 3] [] [] [] (by decide +kernel) ?_ | refine DW.nil ?_ | (with_reducible refine IL.wr ?_ ?_; focus exact cW) | (with_reducible refine DW.wr ?_ ?_; focus exact cW) | refine IL.sgF ttok ?_ | refine IL.nn ?_ | refine DW.reF ttok ?_ | refine DW.rmF ttok ?_ | refine IL.cSF ttok ent5 [] true ?_ (hS := by exact anchor_call) | refine IL.cSF ttok ent6 [.own, .bor, .bor] false ?_ (hS := by exact hput) | refine DW.cSF ttok ent7 [.own, .bor, .bor] false ?_ (hS := by exact hrp) | refine DW.cSF ttok ent8 [.bor, .bor, .bor, .bor, .bor] true ?_ (hS := by exact hrr) | ((first | ((first | refine IL.ag (fun h => ?_) (fun h => ?_) | refine IL.ap (fun h => ?_) (fun h => ?_)); (fail_if_success (focus (simp only [reduceCtorEq] at h)))) | refine WK.cn (fun h => ?_) (fun h => ?_)); all_goals first | (simp only [reduceCtorEq] at h; done) | (simp only [hsA, hsD, hsE, ne_eq] at h; first | done | (exfalso; omega; done) | skip) | skip))
    all_goals try ((first | refine WK.ret ⟨.inr rfl, ?_⟩ | refine ⟨.inl rfl, ?_⟩ | refine ⟨.inl trivial, ?_⟩); refine Fin.o ?_ ?_ (h1 := by first | rfl | (simp only [go_sem, show Try.f3.results.toList = [.tmp 6] from rfl, reduceIte] <;> rfl)); rotate_left 1; (focus (first | rfl | skip)); all_goals try with_reducible rfl)
    all_goals skip
  · have g1 : decide ((ps.length : Int) > 200) = false := decide_eq_false h200
    by_cases h12 : T > F ∧ T - F > 1000
    · have g2 : decide (T > F) = true := decide_eq_true h12.1
      have g3 : decide (T - F > 1000) = true := decide_eq_true h12.2
      obtain ⟨h1, h2⟩ := h12
      refine SCall.of_body' (TT := TT) (fun _ => false) [false, false, false] ttok Try.func3 rfl (Nat.le_of_ble_eq_true rfl) rfl fun fx hfx => WK.top ?_
      simp only [impl, imp, argT, List.append_nil, List.map_nil, List.nil_append, show Try.f3.ntmps = 97 from rfl, Nat.zero_add, Nat.reduceAdd]
      have FX := And.intro g1 (And.intro g2 g3)
      repeat' (first | refine WK.seq ?_ | refine WK.reg ?_ | refine IL.nil ?_ | refine WK.skip ?_ | refine WK.block ?_ | refine WK.exit_here ?_ | refine WK.e1 ?_ | refine WK.e2 ?_ | refine WK.drawnS (id := 15) mixed [1, 2, 3] [2, 11] [0, 0, 0, 0, 0, 0, 0, 0, 0, 0, 0, 1, 2, 2] [0, 0, 0, 1, 1, 1, 1, 1, 1, 1, 1, 1, 2, 2] (by decide +kernel) ?_ | refine WK.drawnS (id := 21) mixed [1, 2, 3] [] [] [] (by decide +kernel) ?_ | refine DW.nil ?_ | (with_reducible refine IL.wr ?_ ?_; focus exact cW) | (with_reducible refine DW.wr ?_ ?_; focus exact cW) | refine IL.sgF ttok ?_ | refine IL.nn ?_ | refine DW.reF ttok ?_ | refine DW.rmF ttok ?_ | refine IL.cSF ttok ent5 [] true ?_ (hS := by exact anchor_call) | refine IL.cSF ttok ent6 [.own, .bor, .bor] false ?_ (hS := by exact hput) | refine DW.cSF ttok ent7 [.own, .bor, .bor] false ?_ (hS := by exact hrp) | refine DW.cSF ttok ent8 [.bor, .bor, .bor, .bor, .bor] true ?_ (hS := by exact hrr) | ((first | ((first | refine IL.ag (fun h => ?_) (fun h => ?_) | refine IL.ap (fun h => ?_) (fun h => ?_)); (fail_if_success (focus (simp only [reduceCtorEq] at h)))) | refine WK.cn (fun h => ?_) (fun h => ?_)); all_goals first | (simp only [reduceCtorEq] at h; done) | (simp only [hsA, hsD, hsE, ne_eq] at h; first | done | (exfalso; omega; done) | skip) | skip))
      all_goals try ((first | refine WK.ret ⟨.inr rfl, ?_⟩ | refine ⟨.inl rfl, ?_⟩ | refine ⟨.inl trivial, ?_⟩); refine Fin.o ?_ ?_ (h1 := by first | rfl | (simp only [go_sem, show Try.f3.results.toList = [.tmp 6] from rfl, reduceIte] <;> rfl)); rotate_left 1; (focus (first | rfl | skip)); all_goals try with_reducible rfl)
      all_goals skip
    · have hgap : T ≤ F + 1000 := by omega
      have hcase : (decide (T > F) = true ∧ decide (T - F > 1000) = false ∧ T > F) ∨ (decide (T > F) = false ∧ True ∧ True) := by
        by_cases h1 : T > F
        · exact .inl ⟨decide_eq_true h1, decide_eq_false (by omega), h1⟩
        · exact .inr ⟨decide_eq_false h1, trivial, trivial⟩
      clear h12
      rcases hcase with ⟨g2, g3, g4⟩ | ⟨g2, g3, g4⟩
      all_goals
        refine SCall.of_body' (TT := TT) (fun _ => false) [false, false, false] ttok Try.func3 rfl (Nat.le_of_ble_eq_true rfl) rfl fun fx hfx => WK.top ?_
        simp only [impl, imp, argT, List.append_nil, List.map_nil, List.nil_append, show Try.f3.ntmps = 97 from rfl, Nat.zero_add, Nat.reduceAdd]
        have FX := And.intro g1 (And.intro g2 g3)
        repeat' (first | refine WK.seq ?_ | refine WK.reg ?_ | refine IL.nil ?_ | refine WK.skip ?_ | refine WK.block ?_ | refine WK.exit_here ?_ | refine WK.e1 ?_ | refine WK.e2 ?_ | refine WK.drawnS (id := 15) mixed [1, 2, 3] [2, 11] [0, 0, 0, 0, 0, 0, 0, 0, 0, 0, 0, 1, 2, 2] [0, 0, 0, 1, 1, 1, 1, 1, 1, 1, 1, 1, 2, 2] (by decide +kernel) ?_ | refine WK.drawnS (id := 21) mixed [1, 2, 3] [] [] [] (by decide +kernel) ?_ | refine DW.nil ?_ | (with_reducible refine IL.wr ?_ ?_; focus exact cW) | (with_reducible refine DW.wr ?_ ?_; focus exact cW) | refine IL.sgF ttok ?_ | refine IL.nn ?_ | refine DW.reF ttok ?_ | refine DW.rmF ttok ?_ | refine IL.cSF ttok ent5 [] true ?_ (hS := by exact anchor_call) | refine IL.cSF ttok ent6 [.own, .bor, .bor] false ?_ (hS := by exact hput) | refine DW.cSF ttok ent7 [.own, .bor, .bor] false ?_ (hS := by exact hrp) | refine DW.cSF ttok ent8 [.bor, .bor, .bor, .bor, .bor] true ?_ (hS := by exact hrr) | ((first | ((first | refine IL.ag (fun h => ?_) (fun h => ?_) | refine IL.ap (fun h => ?_) (fun h => ?_)); (fail_if_success (focus (simp only [reduceCtorEq] at h)))) | refine WK.cn (fun h => ?_) (fun h => ?_)); all_goals first | (simp only [reduceCtorEq] at h; done) | (simp only [hsA, hsD, hsE, ne_eq] at h; first | done | (exfalso; omega; done) | skip) | skip))
        refine WK.forS ps.length (fun k => ∀ p ∈ ps.take k, p.b.length ≤ 500) (fun k => match k with | 0 => ⟨97, [(0, .tr ps.length (encs puC ps)), (2, .v (.int .i64 most)), (4, .ptr 0 0 0), (7, .ptr 2 0 0), (8, .sl 3 0 0 0), (34, .tr ps.length (encs puC ps)), (35, .v (.int .i64 ps.length)), (36, .v (.int .i64 0))], [some ⟨false, 0, 1, false, [.v (.int .u16 R), .v (.int .u32 F), .v (.int .u32 T)], 0, false⟩, some ⟨true, 57, 0, true, [], 0, false⟩, some ⟨false, 0, 1, false, [.v (.map none), .sl 1 0 0 0, .v (.int .i64 0)], 0, false⟩, some ⟨true, 41, 0, true, [], 0, false⟩]⟩ | j + 1 => ⟨97, [(0, .tr ps.length (encs puC ps)), (2, .v (.int .i64 most)), (4, .ptr 0 0 0), (7, .ptr 1 0 0), (8, .sl 4 0 0 (stL (ps.take (j + 1))).length), (34, .tr ps.length (encs puC ps)), (35, .v (.int .i64 ps.length)), (36, .v (.int .i64 ((j + 1 : Nat) : Int)))], [some ⟨false, 0, 1, false, [.v (.int .u16 R), .v (.int .u32 F), .v (.int .u32 T)], 0, false⟩, some ⟨false, 0, 1, false, [.mp 2 0, .sl 3 0 0 (stL (ps.take (j + 1))).length, .v (.int .i64 (szL (stL (ps.take (j + 1))) : Nat))], 0, false⟩, some ⟨false, 28, (ixl (stL (ps.take (j + 1)))).length, true, mcs (ixl (stL (ps.take (j + 1)))), 0, false⟩, some ⟨true, 57, (stL (ps.take (j + 1))).length, true, encs entC (stL (ps.take (j + 1))), 0, false⟩, some ⟨true, 41, (stL (ps.take (j + 1))).length, true, encs entC (stL (ps.take (j + 1))), 0, false⟩]⟩) ⟨by simp, ?_⟩ (fun k hk ho => ?_) (fun ho => ?_)
        · dsimp only
          (refine Weak.renS [0, 1, 2, 3] hfx rfl ?_ ?_ rfl <;> (simp only [go_sem, reduceIte, exists_eq_left', exists_eq_left, Blk.mk.injEq] <;> (try and_intros) <;> first | rfl | omega))
        · have hx : ps[k]? = some ps[k] := List.getElem?_eq_getElem hk
          have hle : k * 3 + 3 ≤ ps.length * 3 := by omega
          have hat : ((encs puC ps).drop (k * 3)).take 3 = [.v (.int .u16 ps[k].r), .v (.int .u32 ps[k].s), .tr ps[k].b.length (bcells ps[k].b)] := encs_at puC_length hx
          have hne : encs puC ps ≠ [] := encs_ne puC_length (by decide) hx
          have htk : ps.take (k + 1) = ps.take k ++ [ps[k]] := by rw [List.take_add_one, hx]; rfl
          have hinv := inv_take hp k (by omega) ho
          have hst := stL_take hx
          have hokp := hp _ (List.getElem_mem hk)
          have ho2 : ps[k].b.length ≤ 500 → ∀ p ∈ ps.take (k + 1), p.b.length ≤ 500 := fun h p hq => by
            rw [htk] at hq
            rcases List.mem_append.1 hq with hq | hq
            · exact ho p hq
            · simp at hq; subst hq; exact h
          clear htk
          generalize hpk : ps[k] = p at *
          cases k with
          | zero =>
            dsimp only
            have hat : (encs puC ps).take 3 = [.v (.int .u16 p.r), .v (.int .u32 p.s), .tr p.b.length (bcells p.b)] := by simpa using hat
            have hle : 3 ≤ ps.length * 3 := by omega
            by_cases hb : (p.b.length : Int) > 500
            · have g5 : decide ((p.b.length : Int) > 500) = true := decide_eq_true hb
              have FX := And.intro hat (And.intro hle g5)
              repeat' (first | refine WK.seq ?_ | refine WK.reg ?_ | refine IL.nil ?_ | refine WK.skip ?_ | refine WK.block ?_ | refine WK.exit_here ?_ | refine WK.e1 ?_ | refine WK.e2 ?_ | refine WK.drawnS (id := 15) mixed [1, 2, 3] [2, 11] [0, 0, 0, 0, 0, 0, 0, 0, 0, 0, 0, 1, 2, 2] [0, 0, 0, 1, 1, 1, 1, 1, 1, 1, 1, 1, 2, 2] (by decide +kernel) ?_ | refine WK.drawnS (id := 21) mixed [1, 2, 3] [] [] [] (by decide +kernel) ?_ | refine DW.nil ?_ | (with_reducible refine IL.wr ?_ ?_; focus exact cW) | (with_reducible refine DW.wr ?_ ?_; focus exact cW) | refine IL.sgF ttok ?_ | refine IL.nn ?_ | refine DW.reF ttok ?_ | refine DW.rmF ttok ?_ | refine IL.cSF ttok ent5 [] true ?_ (hS := by exact anchor_call) | refine IL.cSF ttok ent6 [.own, .bor, .bor] false ?_ (hS := by exact hput) | refine DW.cSF ttok ent7 [.own, .bor, .bor] false ?_ (hS := by exact hrp) | refine DW.cSF ttok ent8 [.bor, .bor, .bor, .bor, .bor] true ?_ (hS := by exact hrr) | ((first | ((first | refine IL.ag (fun h => ?_) (fun h => ?_) | refine IL.ap (fun h => ?_) (fun h => ?_)); (fail_if_success (focus (simp only [reduceCtorEq] at h)))) | refine WK.cn (fun h => ?_) (fun h => ?_)); all_goals first | (simp only [reduceCtorEq] at h; done) | (simp only [hsA, hsD, hsE, ne_eq] at h; first | done | (exfalso; omega; done) | skip) | skip))
              all_goals try ((first | refine WK.ret ⟨.inr rfl, ?_⟩ | refine ⟨.inl rfl, ?_⟩ | refine ⟨.inl trivial, ?_⟩); refine Fin.o ?_ ?_ (h1 := by first | rfl | (simp only [go_sem, show Try.f3.results.toList = [.tmp 6] from rfl, reduceIte] <;> rfl)); rotate_left 1; (focus (first | rfl | skip)); all_goals try with_reducible rfl)
              all_goals skip
            · have g5 : decide ((p.b.length : Int) > 500) = false := decide_eq_false hb
              have hput := put_none 0 p.r p.s p.b hokp.1 hokp.2 (by omega) (by omega)
              have FX := And.intro hat (And.intro hle g5)
              repeat' (first | refine WK.seq ?_ | refine WK.reg ?_ | refine IL.nil ?_ | refine WK.skip ?_ | refine WK.block ?_ | refine WK.exit_here ?_ | refine WK.e1 ?_ | refine WK.e2 ?_ | refine WK.drawnS (id := 15) mixed [1, 2, 3] [2, 11] [0, 0, 0, 0, 0, 0, 0, 0, 0, 0, 0, 1, 2, 2] [0, 0, 0, 1, 1, 1, 1, 1, 1, 1, 1, 1, 2, 2] (by decide +kernel) ?_ | refine WK.drawnS (id := 21) mixed [1, 2, 3] [] [] [] (by decide +kernel) ?_ | refine DW.nil ?_ | (with_reducible refine IL.wr ?_ ?_; focus exact cW) | (with_reducible refine DW.wr ?_ ?_; focus exact cW) | refine IL.sgF ttok ?_ | refine IL.nn ?_ | refine DW.reF ttok ?_ | refine DW.rmF ttok ?_ | refine IL.cSF ttok ent5 [] true ?_ (hS := by exact anchor_call) | refine IL.cSF ttok ent6 [.own, .bor, .bor] false ?_ (hS := by exact hput) | refine DW.cSF ttok ent7 [.own, .bor, .bor] false ?_ (hS := by exact hrp) | refine DW.cSF ttok ent8 [.bor, .bor, .bor, .bor, .bor] true ?_ (hS := by exact hrr) | ((first | ((first | refine IL.ag (fun h => ?_) (fun h => ?_) | refine IL.ap (fun h => ?_) (fun h => ?_)); (fail_if_success (focus (simp only [reduceCtorEq] at h)))) | refine WK.cn (fun h => ?_) (fun h => ?_)); all_goals first | (simp only [reduceCtorEq] at h; done) | (simp only [hsA, hsD, hsE, ne_eq] at h; first | done | (exfalso; omega; done) | skip) | skip))
              have hst1 : stL (ps.take (0 + 1)) = [⟨p.r, p.s, p.b⟩] := by rw [hst]; rfl
              have e1 : encs entC [⟨p.r, p.s, p.b⟩] = [.v (.int .u16 p.r), .v (.int .u32 p.s), .v (strV p.b)] := rfl
              have e2 : ((szL [⟨p.r, p.s, p.b⟩] : Nat) : Int) = 0 + (p.b.length : Int) := by simp [szL]
              have e3 : ((0 + 1 : Nat) : Int) = 0 + 1 := rfl
              have e4 : ([⟨p.r, p.s, p.b⟩] : List EnL).length = 1 := rfl
              refine ⟨ho2 (by omega), ?_⟩
              rw [hst1]
              (refine Weak.renS [0, 2, 6, 7, 3] hfx rfl ?_ ?_ rfl <;> (simp only [go_sem, reduceIte, exists_eq_left', exists_eq_left, Blk.mk.injEq, e1, e2, e3, e4] <;> (try and_intros) <;> first | rfl | omega))
          | succ j =>
            dsimp only
            have hln0 := stL_ne (ps := ps) (k := j) (by omega)
            have hkk : ((j + 1 + 1 : Nat) : Int) = ((j + 1 : Nat) : Int) + 1 := by omega
            have hjb : j + 1 ≤ 200 := by omega
            generalize stL (ps.take (j + 1 + 1)) = l2 at *
            generalize stL (ps.take (j + 1)) = l at *
            have hlz := hinv.sz
            have hll := hinv.len
            by_cases hb : (p.b.length : Int) > 500
            · have g5 : decide ((p.b.length : Int) > 500) = true := decide_eq_true hb
              generalize j + 1 = k at *
              have FX := And.intro hat (And.intro hle g5)
              repeat' (first | refine WK.seq ?_ | refine WK.reg ?_ | refine IL.nil ?_ | refine WK.skip ?_ | refine WK.block ?_ | refine WK.exit_here ?_ | refine WK.e1 ?_ | refine WK.e2 ?_ | refine WK.drawnS (id := 15) mixed [1, 2, 3] [2, 11] [0, 0, 0, 0, 0, 0, 0, 0, 0, 0, 0, 1, 2, 2] [0, 0, 0, 1, 1, 1, 1, 1, 1, 1, 1, 1, 2, 2] (by decide +kernel) ?_ | refine WK.drawnS (id := 21) mixed [1, 2, 3] [] [] [] (by decide +kernel) ?_ | refine DW.nil ?_ | (with_reducible refine IL.wr ?_ ?_; focus exact cW) | (with_reducible refine DW.wr ?_ ?_; focus exact cW) | refine IL.sgF ttok ?_ | refine IL.nn ?_ | refine DW.reF ttok ?_ | refine DW.rmF ttok ?_ | refine IL.cSF ttok ent5 [] true ?_ (hS := by exact anchor_call) | refine IL.cSF ttok ent6 [.own, .bor, .bor] false ?_ (hS := by exact hput) | refine DW.cSF ttok ent7 [.own, .bor, .bor] false ?_ (hS := by exact hrp) | refine DW.cSF ttok ent8 [.bor, .bor, .bor, .bor, .bor] true ?_ (hS := by exact hrr) | ((first | ((first | refine IL.ag (fun h => ?_) (fun h => ?_) | refine IL.ap (fun h => ?_) (fun h => ?_)); (fail_if_success (focus (simp only [reduceCtorEq] at h)))) | refine WK.cn (fun h => ?_) (fun h => ?_)); all_goals first | (simp only [reduceCtorEq] at h; done) | (simp only [hsA, hsD, hsE, ne_eq] at h; first | done | (exfalso; omega; done) | skip) | skip))
              all_goals try ((first | refine WK.ret ⟨.inr rfl, ?_⟩ | refine ⟨.inl rfl, ?_⟩ | refine ⟨.inl trivial, ?_⟩); refine Fin.o ?_ ?_ (h1 := by first | rfl | (simp only [go_sem, show Try.f3.results.toList = [.tmp 6] from rfl, reduceIte] <;> rfl)); rotate_left 1; (focus (first | rfl | skip)); all_goals try with_reducible rfl)
              all_goals skip
            · have g5 : decide ((p.b.length : Int) > 500) = false := decide_eq_false hb
              have ho3 := ho2 (by omega)
              by_cases hpl : plcL l p.r p.s = none
              · have hput := put_some l (szL l : Nat) p.r p.s p.b hinv.ok hinv.dif hokp.1 hokp.2 hln0 hpl (by omega) (by omega) (by omega)
                unfold stp at hst
                rw [if_pos hpl] at hst
                rw [← hst] at hput
                have hln : l2.length = l.length + 1 := by rw [hst]; simp
                have hcs : (encs entC l).take (l.length * 3) ++ [.v (.int .u16 p.r), .v (.int .u32 p.s), .v (strV p.b)] = encs entC l2 := by
                  rw [List.take_of_length_le (by rw [encs_length entC_length]; omega), hst, addL_encs]
                have hcs2 : encs entC l ++ [.v (.int .u16 p.r), .v (.int .u32 p.s), .v (strV p.b)] = encs entC l2 := by rw [hst, addL_encs]
                have hz : ((szL l : Nat) : Int) + (p.b.length : Int) = ((szL l2 : Nat) : Int) := by rw [hst, szL_add]; omega
                have hze : (IntKind.i64.wrap 0 == 0) = true := rfl
                clear hst
                generalize j + 1 = k at *
                have FX := And.intro hat (And.intro hle g5)
                repeat' (first | refine WK.seq ?_ | refine WK.reg ?_ | refine IL.nil ?_ | refine WK.skip ?_ | refine WK.block ?_ | refine WK.exit_here ?_ | refine WK.e1 ?_ | refine WK.e2 ?_ | refine WK.drawnS (id := 15) mixed [1, 2, 3] [2, 11] [0, 0, 0, 0, 0, 0, 0, 0, 0, 0, 0, 1, 2, 2] [0, 0, 0, 1, 1, 1, 1, 1, 1, 1, 1, 1, 2, 2] (by decide +kernel) ?_ | refine WK.drawnS (id := 21) mixed [1, 2, 3] [] [] [] (by decide +kernel) ?_ | refine DW.nil ?_ | (with_reducible refine IL.wr ?_ ?_; focus exact cW) | (with_reducible refine DW.wr ?_ ?_; focus exact cW) | refine IL.sgF ttok ?_ | refine IL.nn ?_ | refine DW.reF ttok ?_ | refine DW.rmF ttok ?_ | refine IL.cSF ttok ent5 [] true ?_ (hS := by exact anchor_call) | refine IL.cSF ttok ent6 [.own, .bor, .bor] false ?_ (hS := by exact hput) | refine DW.cSF ttok ent7 [.own, .bor, .bor] false ?_ (hS := by exact hrp) | refine DW.cSF ttok ent8 [.bor, .bor, .bor, .bor, .bor] true ?_ (hS := by exact hrr) | ((first | ((first | refine IL.ag (fun h => ?_) (fun h => ?_) | refine IL.ap (fun h => ?_) (fun h => ?_)); (fail_if_success (focus (simp only [reduceCtorEq] at h)))) | refine WK.cn (fun h => ?_) (fun h => ?_)); all_goals first | (simp only [reduceCtorEq] at h; done) | (simp only [hsA, hsD, hsE, ne_eq] at h; first | done | (exfalso; omega; done) | skip) | skip))
                refine ⟨ho3, ?_⟩
                (refine Weak.renS [0, 1, 7, 8, 4] hfx rfl ?_ ?_ rfl <;> (simp only [go_sem, reduceIte, exists_eq_left', exists_eq_left, Blk.mk.injEq, hln, hcs, hcs2, hz, hkk] <;> (try and_intros) <;> first | rfl | omega))
              · obtain ⟨ix, hix⟩ := Option.ne_none_iff_exists'.1 hpl
                have hput := put_twice l (szL l : Nat) p.r p.s p.b ix hinv.ok hinv.dif hokp.1 hokp.2 hix
                unfold stp at hst
                rw [if_neg hpl] at hst
                subst hst
                generalize j + 1 = k at *
                have FX := And.intro hat (And.intro hle g5)
                repeat' (first | refine WK.seq ?_ | refine WK.reg ?_ | refine IL.nil ?_ | refine WK.skip ?_ | refine WK.block ?_ | refine WK.exit_here ?_ | refine WK.e1 ?_ | refine WK.e2 ?_ | refine WK.drawnS (id := 15) mixed [1, 2, 3] [2, 11] [0, 0, 0, 0, 0, 0, 0, 0, 0, 0, 0, 1, 2, 2] [0, 0, 0, 1, 1, 1, 1, 1, 1, 1, 1, 1, 2, 2] (by decide +kernel) ?_ | refine WK.drawnS (id := 21) mixed [1, 2, 3] [] [] [] (by decide +kernel) ?_ | refine DW.nil ?_ | (with_reducible refine IL.wr ?_ ?_; focus exact cW) | (with_reducible refine DW.wr ?_ ?_; focus exact cW) | refine IL.sgF ttok ?_ | refine IL.nn ?_ | refine DW.reF ttok ?_ | refine DW.rmF ttok ?_ | refine IL.cSF ttok ent5 [] true ?_ (hS := by exact anchor_call) | refine IL.cSF ttok ent6 [.own, .bor, .bor] false ?_ (hS := by exact hput) | refine DW.cSF ttok ent7 [.own, .bor, .bor] false ?_ (hS := by exact hrp) | refine DW.cSF ttok ent8 [.bor, .bor, .bor, .bor, .bor] true ?_ (hS := by exact hrr) | ((first | ((first | refine IL.ag (fun h => ?_) (fun h => ?_) | refine IL.ap (fun h => ?_) (fun h => ?_)); (fail_if_success (focus (simp only [reduceCtorEq] at h)))) | refine WK.cn (fun h => ?_) (fun h => ?_)); all_goals first | (simp only [reduceCtorEq] at h; done) | (simp only [hsA, hsD, hsE, ne_eq] at h; first | done | (exfalso; omega; done) | skip) | skip))
                refine ⟨ho3, ?_⟩
                (refine Weak.renS [0, 1, 7, 8, 4] hfx rfl ?_ ?_ rfl <;> (simp only [go_sem, reduceIte, exists_eq_left', exists_eq_left, Blk.mk.injEq, hkk] <;> (try and_intros) <;> first | rfl | omega))
        · rw [List.take_length] at ho
          have hinv := inv_take hp ps.length (Nat.le_refl _) (by rw [List.take_length]; exact ho)
          rw [List.take_length] at hinv
          generalize hn : ps.length = n at *
          cases n with
          | zero =>
            dsimp only
            obtain rfl : ps = [] := List.length_eq_zero_iff.1 hn
            have hrp := reply_call [] 0 R F T most (by simp) hinv.dif (by decide) (by simp) hR
            change SCall _ _ [.obj [.v (.map none), .own 57 0 true [], .v (.int .i64 0)], gapI R F T, .v (.int .i64 most)] _ [.obj [.v (.map none), .own 57 0 true [], .v (.int .i64 0)], gapI R F T, .v (.int .i64 most)] at hrp
            have hrr := refReply_call [] R F T most (by decide) hF hT hgap
            rw [← outL_len] at hrp
            rw [← out_fnd (l := []) List.Pairwise.nil] at hrr
            have hol0 := outL_len [] R F T most
            have hol1 : (outL [] R F T most).length ≤ 256 := by rw [hol0]; exact Nat.le_trans (Nat.min_le_left _ _) (by rw [show keptL [] R F T = [] from rfl]; decide)
            generalize outL [] R F T most = O at *
            have hbb : ((O.length : Int) != (O.length : Int)) = false := by simp
            have FX := And.intro g1 hbb
            repeat' (first | refine WK.seq ?_ | refine WK.reg ?_ | refine IL.nil ?_ | refine WK.skip ?_ | refine WK.block ?_ | refine WK.exit_here ?_ | refine WK.e1 ?_ | refine WK.e2 ?_ | refine WK.drawnS (id := 15) mixed [1, 2, 3] [2, 11] [0, 0, 0, 0, 0, 0, 0, 0, 0, 0, 0, 1, 2, 2] [0, 0, 0, 1, 1, 1, 1, 1, 1, 1, 1, 1, 2, 2] (by decide +kernel) ?_ | refine WK.drawnS (id := 21) mixed [1, 2, 3] [] [] [] (by decide +kernel) ?_ | refine DW.nil ?_ | (with_reducible refine IL.wr ?_ ?_; focus exact cW) | (with_reducible refine DW.wr ?_ ?_; focus exact cW) | refine IL.sgF ttok ?_ | refine IL.nn ?_ | refine DW.reF ttok ?_ | refine DW.rmF ttok ?_ | refine IL.cSF ttok ent5 [] true ?_ (hS := by exact anchor_call) | refine IL.cSF ttok ent6 [.own, .bor, .bor] false ?_ (hS := by exact hput) | refine DW.cSF ttok ent7 [.own, .bor, .bor] false ?_ (hS := by exact hrp) | refine DW.cSF ttok ent8 [.bor, .bor, .bor, .bor, .bor] true ?_ (hS := by exact hrr) | ((first | ((first | refine IL.ag (fun h => ?_) (fun h => ?_) | refine IL.ap (fun h => ?_) (fun h => ?_)); (fail_if_success (focus (simp only [reduceCtorEq] at h)))) | refine WK.cn (fun h => ?_) (fun h => ?_)); all_goals first | (simp only [reduceCtorEq] at h; done) | (simp only [hsA, hsD, hsE, ne_eq] at h; first | done | (exfalso; omega; done) | skip) | skip))
            refine WK.forS O.length (fun k => True) (fun k => ⟨97, [(11, .sl 0 0 0 O.length), (12, .sl 1 0 0 O.length), (81, .sl 0 0 0 O.length), (82, .v (.int .i64 O.length)), (83, .v (.int .i64 k))], [some ⟨true, 35, O.length, false, encs byC O, 0, false⟩, some ⟨true, 9, O.length, true, encs strC O, 0, false⟩]⟩) ⟨trivial, ?_⟩ (fun k hk ho => ?_) (fun ho => ?_)
            · (refine Weak.renS [4, 6] hfx rfl ?_ ?_ rfl <;> (simp only [go_sem, reduceIte, exists_eq_left', exists_eq_left, Blk.mk.injEq] <;> (try and_intros) <;> first | rfl | omega))
            · have hx : O[k]? = some O[k] := List.getElem?_eq_getElem hk
              have hat1 : (encs byC O)[k * 1 + 0]? = some (.tr O[k].length (bcells O[k])) := encs_get byC_length hx (by decide)
              have hat2 : (encs strC O)[k * 1 + 0]? = some (.v (strV O[k])) := encs_get strC_length hx (by decide)
              rw [Nat.add_zero, Nat.mul_one] at hat1 hat2
              have hsq : (O[k] == O[k]) = true := by simp
              have hsq2 : ((⟨O[k].toArray⟩ : ByteArray).toList == (⟨O[k].toArray⟩ : ByteArray).toList) = true := by simp
              have hw : (k : Int) + 1 = ((k + 1 : Nat) : Int) := by omega
              have hol : O.length ≤ 1000000 := by omega
              clear hx hrp hrr
              generalize O[k] = e at *
              have FX := And.intro hat1 (And.intro hat2 (And.intro hsq hsq2))
              repeat' (first | refine WK.seq ?_ | refine WK.reg ?_ | refine IL.nil ?_ | refine WK.skip ?_ | refine WK.block ?_ | refine WK.exit_here ?_ | refine WK.e1 ?_ | refine WK.e2 ?_ | refine WK.drawnS (id := 15) mixed [1, 2, 3] [2, 11] [0, 0, 0, 0, 0, 0, 0, 0, 0, 0, 0, 1, 2, 2] [0, 0, 0, 1, 1, 1, 1, 1, 1, 1, 1, 1, 2, 2] (by decide +kernel) ?_ | refine WK.drawnS (id := 21) mixed [1, 2, 3] [] [] [] (by decide +kernel) ?_ | refine DW.nil ?_ | (with_reducible refine IL.wr ?_ ?_; focus exact cW) | (with_reducible refine DW.wr ?_ ?_; focus exact cW) | refine IL.sgF ttok ?_ | refine IL.nn ?_ | refine DW.reF ttok ?_ | refine DW.rmF ttok ?_ | refine IL.cSF ttok ent5 [] true ?_ (hS := by exact anchor_call) | refine IL.cSF ttok ent6 [.own, .bor, .bor] false ?_ (hS := by exact hput) | refine DW.cSF ttok ent7 [.own, .bor, .bor] false ?_ (hS := by exact hrp) | refine DW.cSF ttok ent8 [.bor, .bor, .bor, .bor, .bor] true ?_ (hS := by exact hrr) | ((first | ((first | refine IL.ag (fun h => ?_) (fun h => ?_) | refine IL.ap (fun h => ?_) (fun h => ?_)); (fail_if_success (focus (simp only [reduceCtorEq] at h)))) | refine WK.cn (fun h => ?_) (fun h => ?_)); all_goals first | (simp only [reduceCtorEq] at h; done) | (simp only [hsA, hsD, hsE, ne_eq] at h; first | done | (exfalso; omega; done) | skip) | skip))
              refine ⟨trivial, ?_⟩
              (refine Weak.renS [0, 1] hfx rfl ?_ ?_ rfl <;> (simp only [go_sem, reduceIte, exists_eq_left', exists_eq_left, Blk.mk.injEq, hw] <;> (try and_intros) <;> first | rfl | omega))
            · repeat' (first | refine WK.seq ?_ | refine WK.reg ?_ | refine IL.nil ?_ | refine WK.skip ?_ | refine WK.block ?_ | refine WK.exit_here ?_ | refine WK.e1 ?_ | refine WK.e2 ?_ | refine WK.drawnS (id := 15) mixed [1, 2, 3] [2, 11] [0, 0, 0, 0, 0, 0, 0, 0, 0, 0, 0, 1, 2, 2] [0, 0, 0, 1, 1, 1, 1, 1, 1, 1, 1, 1, 2, 2] (by decide +kernel) ?_ | refine WK.drawnS (id := 21) mixed [1, 2, 3] [] [] [] (by decide +kernel) ?_ | refine DW.nil ?_ | (with_reducible refine IL.wr ?_ ?_; focus exact cW) | (with_reducible refine DW.wr ?_ ?_; focus exact cW) | refine IL.sg ttok ?_ | refine IL.nn ?_ | refine DW.re ttok ?_ | refine DW.rm ttok ?_ | refine IL.cS ttok ent5 [] true ?_ (hS := by exact anchor_call) | refine IL.cS ttok ent6 [.own, .bor, .bor] false ?_ (hS := by exact hput) | refine DW.cS ttok ent7 [.own, .bor, .bor] false ?_ (hS := by exact hrp) | refine DW.cS ttok ent8 [.bor, .bor, .bor, .bor, .bor] true ?_ (hS := by exact hrr) | ((first | ((first | refine IL.ag (fun h => ?_) (fun h => ?_) | refine IL.ap (fun h => ?_) (fun h => ?_)); (fail_if_success (focus (simp only [reduceCtorEq] at h)))) | refine WK.cn (fun h => ?_) (fun h => ?_)); all_goals first | (simp only [reduceCtorEq] at h; done) | (simp only [hsA, hsD, hsE, ne_eq] at h; first | done | (exfalso; omega; done) | skip) | skip))
              all_goals try ((first | refine WK.ret ⟨.inr rfl, ?_⟩ | refine ⟨.inl rfl, ?_⟩ | refine ⟨.inl trivial, ?_⟩); refine Fin.o ?_ ?_ (h1 := by first | rfl | (simp only [go_sem, show Try.f3.results.toList = [.tmp 6] from rfl, reduceIte] <;> rfl)); rotate_left 1; (focus (first | rfl | skip)); all_goals try with_reducible rfl)
              all_goals skip
          | succ j =>
            dsimp only
            have hne := stL_ne (ps := ps) (k := j) (by omega)
            rw [List.take_of_length_le (by omega)] at hne
            rw [show stL (ps.take (j + 1)) = stL ps by rw [List.take_of_length_le (by omega)]]
            have hll := hinv.len
            have hrp := reply_call (stL ps) (szL (stL ps) : Nat) R F T most hinv.ok hinv.dif (by omega) (fun e he => by have := hinv.bl e he; omega) hR
            have hrr := refReply_call (stL ps) R F T most (by omega) hF hT hgap
            unfold logO at hrp
            rw [mapC_ne hne] at hrp
            generalize j + 1 = n at *
            rw [← outL_len] at hrp
            rw [← out_fnd hinv.dif] at hrr
            have hol0 := outL_len (stL ps) R F T most
            have hol1 : (outL (stL ps) R F T most).length ≤ 256 := by
              have : (keptL (stL ps) R F T).length ≤ (stL ps).length := by unfold keptL; rw [List.length_map]; exact List.length_filter_le _ _
              omega
            generalize outL (stL ps) R F T most = O at *
            have hbb : ((O.length : Int) != (O.length : Int)) = false := by simp
            have FX := And.intro g1 hbb
            repeat' (first | refine WK.seq ?_ | refine WK.reg ?_ | refine IL.nil ?_ | refine WK.skip ?_ | refine WK.block ?_ | refine WK.exit_here ?_ | refine WK.e1 ?_ | refine WK.e2 ?_ | refine WK.drawnS (id := 15) mixed [1, 2, 3] [2, 11] [0, 0, 0, 0, 0, 0, 0, 0, 0, 0, 0, 1, 2, 2] [0, 0, 0, 1, 1, 1, 1, 1, 1, 1, 1, 1, 2, 2] (by decide +kernel) ?_ | refine WK.drawnS (id := 21) mixed [1, 2, 3] [] [] [] (by decide +kernel) ?_ | refine DW.nil ?_ | (with_reducible refine IL.wr ?_ ?_; focus exact cW) | (with_reducible refine DW.wr ?_ ?_; focus exact cW) | refine IL.sgF ttok ?_ | refine IL.nn ?_ | refine DW.reF ttok ?_ | refine DW.rmF ttok ?_ | refine IL.cSF ttok ent5 [] true ?_ (hS := by exact anchor_call) | refine IL.cSF ttok ent6 [.own, .bor, .bor] false ?_ (hS := by exact hput) | refine DW.cSF ttok ent7 [.own, .bor, .bor] false ?_ (hS := by exact hrp) | refine DW.cSF ttok ent8 [.bor, .bor, .bor, .bor, .bor] true ?_ (hS := by exact hrr) | ((first | ((first | refine IL.ag (fun h => ?_) (fun h => ?_) | refine IL.ap (fun h => ?_) (fun h => ?_)); (fail_if_success (focus (simp only [reduceCtorEq] at h)))) | refine WK.cn (fun h => ?_) (fun h => ?_)); all_goals first | (simp only [reduceCtorEq] at h; done) | (simp only [hsA, hsD, hsE, ne_eq] at h; first | done | (exfalso; omega; done) | skip) | skip))
            refine WK.forS O.length (fun k => True) (fun k => ⟨97, [(11, .sl 0 0 0 O.length), (12, .sl 1 0 0 O.length), (81, .sl 0 0 0 O.length), (82, .v (.int .i64 O.length)), (83, .v (.int .i64 k))], [some ⟨true, 35, O.length, false, encs byC O, 0, false⟩, some ⟨true, 9, O.length, true, encs strC O, 0, false⟩]⟩) ⟨trivial, ?_⟩ (fun k hk ho => ?_) (fun ho => ?_)
            · (refine Weak.renS [5, 8] hfx rfl ?_ ?_ rfl <;> (simp only [go_sem, reduceIte, exists_eq_left', exists_eq_left, Blk.mk.injEq] <;> (try and_intros) <;> first | rfl | omega))
            · have hx : O[k]? = some O[k] := List.getElem?_eq_getElem hk
              have hat1 : (encs byC O)[k * 1 + 0]? = some (.tr O[k].length (bcells O[k])) := encs_get byC_length hx (by decide)
              have hat2 : (encs strC O)[k * 1 + 0]? = some (.v (strV O[k])) := encs_get strC_length hx (by decide)
              rw [Nat.add_zero, Nat.mul_one] at hat1 hat2
              have hsq : (O[k] == O[k]) = true := by simp
              have hsq2 : ((⟨O[k].toArray⟩ : ByteArray).toList == (⟨O[k].toArray⟩ : ByteArray).toList) = true := by simp
              have hw : (k : Int) + 1 = ((k + 1 : Nat) : Int) := by omega
              have hol : O.length ≤ 1000000 := by omega
              clear hx hrp hrr
              generalize O[k] = e at *
              have FX := And.intro hat1 (And.intro hat2 (And.intro hsq hsq2))
              repeat' (first | refine WK.seq ?_ | refine WK.reg ?_ | refine IL.nil ?_ | refine WK.skip ?_ | refine WK.block ?_ | refine WK.exit_here ?_ | refine WK.e1 ?_ | refine WK.e2 ?_ | refine WK.drawnS (id := 15) mixed [1, 2, 3] [2, 11] [0, 0, 0, 0, 0, 0, 0, 0, 0, 0, 0, 1, 2, 2] [0, 0, 0, 1, 1, 1, 1, 1, 1, 1, 1, 1, 2, 2] (by decide +kernel) ?_ | refine WK.drawnS (id := 21) mixed [1, 2, 3] [] [] [] (by decide +kernel) ?_ | refine DW.nil ?_ | (with_reducible refine IL.wr ?_ ?_; focus exact cW) | (with_reducible refine DW.wr ?_ ?_; focus exact cW) | refine IL.sgF ttok ?_ | refine IL.nn ?_ | refine DW.reF ttok ?_ | refine DW.rmF ttok ?_ | refine IL.cSF ttok ent5 [] true ?_ (hS := by exact anchor_call) | refine IL.cSF ttok ent6 [.own, .bor, .bor] false ?_ (hS := by exact hput) | refine DW.cSF ttok ent7 [.own, .bor, .bor] false ?_ (hS := by exact hrp) | refine DW.cSF ttok ent8 [.bor, .bor, .bor, .bor, .bor] true ?_ (hS := by exact hrr) | ((first | ((first | refine IL.ag (fun h => ?_) (fun h => ?_) | refine IL.ap (fun h => ?_) (fun h => ?_)); (fail_if_success (focus (simp only [reduceCtorEq] at h)))) | refine WK.cn (fun h => ?_) (fun h => ?_)); all_goals first | (simp only [reduceCtorEq] at h; done) | (simp only [hsA, hsD, hsE, ne_eq] at h; first | done | (exfalso; omega; done) | skip) | skip))
              refine ⟨trivial, ?_⟩
              (refine Weak.renS [0, 1] hfx rfl ?_ ?_ rfl <;> (simp only [go_sem, reduceIte, exists_eq_left', exists_eq_left, Blk.mk.injEq, hw] <;> (try and_intros) <;> first | rfl | omega))
            · repeat' (first | refine WK.seq ?_ | refine WK.reg ?_ | refine IL.nil ?_ | refine WK.skip ?_ | refine WK.block ?_ | refine WK.exit_here ?_ | refine WK.e1 ?_ | refine WK.e2 ?_ | refine WK.drawnS (id := 15) mixed [1, 2, 3] [2, 11] [0, 0, 0, 0, 0, 0, 0, 0, 0, 0, 0, 1, 2, 2] [0, 0, 0, 1, 1, 1, 1, 1, 1, 1, 1, 1, 2, 2] (by decide +kernel) ?_ | refine WK.drawnS (id := 21) mixed [1, 2, 3] [] [] [] (by decide +kernel) ?_ | refine DW.nil ?_ | (with_reducible refine IL.wr ?_ ?_; focus exact cW) | (with_reducible refine DW.wr ?_ ?_; focus exact cW) | refine IL.sg ttok ?_ | refine IL.nn ?_ | refine DW.re ttok ?_ | refine DW.rm ttok ?_ | refine IL.cS ttok ent5 [] true ?_ (hS := by exact anchor_call) | refine IL.cS ttok ent6 [.own, .bor, .bor] false ?_ (hS := by exact hput) | refine DW.cS ttok ent7 [.own, .bor, .bor] false ?_ (hS := by exact hrp) | refine DW.cS ttok ent8 [.bor, .bor, .bor, .bor, .bor] true ?_ (hS := by exact hrr) | ((first | ((first | refine IL.ag (fun h => ?_) (fun h => ?_) | refine IL.ap (fun h => ?_) (fun h => ?_)); (fail_if_success (focus (simp only [reduceCtorEq] at h)))) | refine WK.cn (fun h => ?_) (fun h => ?_)); all_goals first | (simp only [reduceCtorEq] at h; done) | (simp only [hsA, hsD, hsE, ne_eq] at h; first | done | (exfalso; omega; done) | skip) | skip))
              all_goals try ((first | refine WK.ret ⟨.inr rfl, ?_⟩ | refine ⟨.inl rfl, ?_⟩ | refine ⟨.inl trivial, ?_⟩); refine Fin.o ?_ ?_ (h1 := by first | rfl | (simp only [go_sem, show Try.f3.results.toList = [.tmp 6] from rfl, reduceIte] <;> rfl)); rotate_left 1; (focus (first | rfl | skip)); all_goals try with_reducible rfl)
              all_goals skip
end Go.Proofs.Ythneocdjknhgdaa
