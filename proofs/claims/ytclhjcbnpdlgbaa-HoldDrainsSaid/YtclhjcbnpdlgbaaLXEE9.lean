import Derived.Test.YtclhjcbnpdlgbaaLXEJE
import Derived.Test.YtclhjcbnpdlgbaaLA3
set_option linter.unusedVariables false
set_option linter.unusedSimpArgs false
/- The document's vectors: With. -/
namespace Go.Proofs.Ytclhjcbnpdlgbaa.Vc
open Go Go.Lift
set_option maxHeartbeats 4000000
set_option linter.unusedSimpArgs false
set_option linter.unusedVariables false
attribute [local irreducible] WK IL IP IG IW DW

theorem filt_len (l : List Ve) (p : Ve → Bool) : (l.filter p).length ≤ l.length := List.length_filter_le _ _
theorem filt_snoc (l : List Ve) (x : Ve) (p : Ve → Bool) : (l ++ [x]).filter p = l.filter p ++ (if p x = true then [x] else []) := by rw [List.filter_append]; congr 1; by_cases h : p x = true <;> simp [h]
theorem refWith_call (l : List Ve) (r q : Int) (hn : l.length ≤ 100000) :
    SCall Try.prog 14 [.tr l.length (encs veC l), .v (.int .u16 r), .v (.int .u32 q)] (.own 90 (withV l r q).length true (encs veC (withV l r q))) [.tr l.length (encs veC l), .v (.int .u16 r), .v (.int .u32 q)] := by
  refine SCall.of_body' (TT := TT) (fun _ => false) [false, false, false] ttok Try.func14 rfl (Nat.le_of_ble_eq_true rfl) rfl fun fx hfx => WK.top ?_
  simp only [impl, imp, argT, List.append_nil, List.map_nil, List.nil_append, show Try.f14.ntmps = 59 from rfl, Nat.zero_add, Nat.reduceAdd]
  repeat' (first | refine WK.seq ?_ | refine WK.reg ?_ | refine IL.nil ?_ | refine WK.skip ?_ | refine WK.block ?_ | refine WK.exit_here ?_ | refine WK.e1 ?_ | refine WK.e2 ?_ | (with_reducible refine IL.wr ?_ ?_; focus exact cW) | refine IL.sg ttok ?_ | (refine WK.cn (fun h => ?_) (fun h => ?_); all_goals first | (simp only [reduceCtorEq] at h; done) | (simp only [hsA, hsD, hsE, ne_eq] at h; first | done | (exfalso; omega; done) | skip) | skip))
  refine WK.forS l.length (fun k => True) (fun k => ⟨59, [(0, .tr l.length (encs veC l)), (1, .v (.int .u16 r)), (2, .v (.int .u32 q)), (7, .sl 0 0 0 ((l.take k).filter fun x => decide (x.1 < r)).length), (8, .v (.int .i64 k))], [some ⟨true, 90, ((l.take k).filter fun x => decide (x.1 < r)).length, true, encs veC ((l.take k).filter fun x => decide (x.1 < r)), 0, false⟩]⟩) ⟨trivial, ?_⟩ (fun k hk ho => ?_) (fun ho => ?_)
  · rw [List.take_zero, List.filter_nil]
    (refine Weak.renS [1] hfx rfl ?_ ?_ rfl <;> (simp only [go_sem, reduceIte, exists_eq_left', exists_eq_left, Blk.mk.injEq, List.length_nil, encs_nil] <;> (try and_intros) <;> first | rfl | omega))
  · have hx : l[k]? = some l[k] := List.getElem?_eq_getElem hk
    have hat1 : (encs veC l)[k * 2 + 0]? = some (.v (.int .u16 l[k].1)) := encs_get veC_length hx (by decide)
    rw [Nat.add_zero] at hat1
    have hat : ((encs veC l).drop (k * 2)).take 2 = [.v (.int .u16 l[k].1), .v (.int .u32 l[k].2)] := encs_at veC_length hx
    have hle : k * 2 + 2 ≤ l.length * 2 := by omega
    have hne : encs veC l ≠ [] := encs_ne veC_length (by decide) hx
    have htk : l.take (k + 1) = l.take k ++ [l[k]] := by rw [List.take_add_one, hx]; rfl
    have hlt := filt_len (l.take k) fun x => decide (x.1 < r)
    have hlt2 : (l.take k).length ≤ 100000 := by rw [List.length_take]; omega
    rw [htk, filt_snoc]
    clear htk hx
    generalize l[k] = x at *
    generalize (l.take k).filter (fun x => decide (x.1 < r)) = out at *
    have hsn := encs_snoc (f := veC) out x
    have htq : (encs veC out).take (out.length * 2) = encs veC out := encs_take_all veC_length out
    simp only [veC] at hsn
    have FX := And.intro hat1 (And.intro hat hle)
    repeat' (first | refine WK.seq ?_ | refine WK.reg ?_ | refine IL.nil ?_ | refine WK.skip ?_ | refine WK.block ?_ | refine WK.exit_here ?_ | refine WK.e1 ?_ | refine WK.e2 ?_ | (with_reducible refine IL.wr ?_ ?_; focus exact cW) | refine IL.sgF ttok ?_ | (refine WK.cn (fun h => ?_) (fun h => ?_); all_goals first | (simp only [reduceCtorEq] at h; done) | (simp only [hsA, hsD, hsE, ne_eq] at h; first | done | (exfalso; omega; done) | skip) | skip))
    · rw [if_pos (decide_eq_true h)]
      refine ⟨trivial, ?_⟩
      (refine Weak.renS [0] hfx rfl ?_ ?_ rfl <;> (simp only [go_sem, reduceIte, exists_eq_left', exists_eq_left, Blk.mk.injEq, htq, hsn, List.length_append, List.length_cons, List.length_nil] <;> (try and_intros) <;> first | rfl | omega))
    · rw [if_neg (by simpa using h)]
      refine ⟨trivial, ?_⟩
      (refine Weak.renS [0] hfx rfl ?_ ?_ rfl <;> (simp only [go_sem, reduceIte, exists_eq_left', exists_eq_left, Blk.mk.injEq, List.append_nil] <;> (try and_intros) <;> first | rfl | omega))
  · rw [List.take_length]
    have hl1 := filt_len l fun x => decide (x.1 < r)
    have hw : withV l r q = (l.filter (fun x => decide (x.1 < r)) ++ (if 0 < q then [(r, q)] else [])) ++ l.filter (fun x => decide (r < x.1)) := by unfold withV; rw [List.append_assoc]
    rw [hw]
    generalize l.filter (fun x => decide (x.1 < r)) = o1 at *
    have hsn1 := encs_snoc (f := veC) o1 (r, q)
    have htq1 : (encs veC o1).take (o1.length * 2) = encs veC o1 := encs_take_all veC_length o1
    simp only [veC] at hsn1
    have hcase : (0 < q ∧ o1 ++ [(r, q)] = o1 ++ (if 0 < q then [(r, q)] else [])) ∨ (¬ 0 < q ∧ o1 = o1 ++ (if 0 < q then [(r, q)] else [])) := by
      by_cases hq : 0 < q
      · rw [if_pos hq]; exact .inl ⟨hq, rfl⟩
      · rw [if_neg hq]; exact .inr ⟨hq, (List.append_nil _).symm⟩
    generalize o1 ++ (if 0 < q then [(r, q)] else []) = o2 at *
    have hl2 : o2.length ≤ 100001 := by
      rcases hcase with ⟨_, rfl⟩ | ⟨_, rfl⟩
      · rw [List.length_append, List.length_cons, List.length_nil]; omega
      · omega
    rcases hcase with ⟨hq, he⟩ | ⟨hq, he⟩
    all_goals
      have hln := congrArg List.length he
      have hec := congrArg (encs veC) he
      repeat' (first | refine WK.seq ?_ | refine WK.reg ?_ | refine IL.nil ?_ | refine WK.skip ?_ | refine WK.block ?_ | refine WK.exit_here ?_ | refine WK.e1 ?_ | refine WK.e2 ?_ | (with_reducible refine IL.wr ?_ ?_; focus exact cW) | refine IL.sg ttok ?_ | (refine WK.cn (fun h => ?_) (fun h => ?_); all_goals first | (simp only [reduceCtorEq] at h; done) | (simp only [hsA, hsD, hsE, ne_eq] at h; first | done | (exfalso; omega; done) | skip) | skip))
      refine WK.forS l.length (fun k => True) (fun k => ⟨59, [(0, .tr l.length (encs veC l)), (1, .v (.int .u16 r)), (7, .sl 0 0 0 (o2 ++ (l.take k).filter fun x => decide (r < x.1)).length), (9, .v (.int .i64 k))], [some ⟨true, 90, (o2 ++ (l.take k).filter fun x => decide (r < x.1)).length, true, encs veC (o2 ++ (l.take k).filter fun x => decide (r < x.1)), 0, false⟩]⟩) ⟨trivial, ?_⟩ (fun k hk ho => ?_) (fun ho => ?_)
      · rw [List.take_zero, List.filter_nil, List.append_nil, ← he]
        (refine Weak.renS [0] hfx rfl ?_ ?_ rfl <;> (simp only [go_sem, reduceIte, exists_eq_left', exists_eq_left, Blk.mk.injEq, htq1, hsn1, List.length_append, List.length_cons, List.length_nil] <;> (try and_intros) <;> first | rfl | omega))
      · have hx : l[k]? = some l[k] := List.getElem?_eq_getElem hk
        have hat1 : (encs veC l)[k * 2 + 0]? = some (.v (.int .u16 l[k].1)) := encs_get veC_length hx (by decide)
        rw [Nat.add_zero] at hat1
        have hat : ((encs veC l).drop (k * 2)).take 2 = [.v (.int .u16 l[k].1), .v (.int .u32 l[k].2)] := encs_at veC_length hx
        have hle : k * 2 + 2 ≤ l.length * 2 := by omega
        have hne : encs veC l ≠ [] := encs_ne veC_length (by decide) hx
        have htk : l.take (k + 1) = l.take k ++ [l[k]] := by rw [List.take_add_one, hx]; rfl
        have hlt := filt_len (l.take k) fun x => decide (r < x.1)
        have hlt2 : (l.take k).length ≤ 100000 := by rw [List.length_take]; omega
        have hlt3 : (o2 ++ (l.take k).filter fun x => decide (r < x.1)).length ≤ 200001 := by rw [List.length_append]; omega
        rw [htk, filt_snoc, ← List.append_assoc]
        clear htk hx
        generalize l[k] = x at *
        generalize o2 ++ (l.take k).filter (fun x => decide (r < x.1)) = out at *
        have hsn := encs_snoc (f := veC) out x
        have htq : (encs veC out).take (out.length * 2) = encs veC out := encs_take_all veC_length out
        simp only [veC] at hsn
        have FX := And.intro hat1 (And.intro hat hle)
        repeat' (first | refine WK.seq ?_ | refine WK.reg ?_ | refine IL.nil ?_ | refine WK.skip ?_ | refine WK.block ?_ | refine WK.exit_here ?_ | refine WK.e1 ?_ | refine WK.e2 ?_ | (with_reducible refine IL.wr ?_ ?_; focus exact cW) | refine IL.sgF ttok ?_ | (refine WK.cn (fun h => ?_) (fun h => ?_); all_goals first | (simp only [reduceCtorEq] at h; done) | (simp only [hsA, hsD, hsE, ne_eq] at h; first | done | (exfalso; omega; done) | skip) | skip))
        · rw [if_pos (decide_eq_true h)]
          refine ⟨trivial, ?_⟩
          (refine Weak.renS [0] hfx rfl ?_ ?_ rfl <;> (simp only [go_sem, reduceIte, exists_eq_left', exists_eq_left, Blk.mk.injEq, htq, hsn, List.length_append, List.length_cons, List.length_nil] <;> (try and_intros) <;> first | rfl | omega))
        · rw [if_neg (by simpa using h)]
          refine ⟨trivial, ?_⟩
          (refine Weak.renS [0] hfx rfl ?_ ?_ rfl <;> (simp only [go_sem, reduceIte, exists_eq_left', exists_eq_left, Blk.mk.injEq, List.append_nil] <;> (try and_intros) <;> first | rfl | omega))
      · rw [List.take_length]
        repeat' (first | refine WK.seq ?_ | refine WK.reg ?_ | refine IL.nil ?_ | refine WK.skip ?_ | refine WK.block ?_ | refine WK.exit_here ?_ | refine WK.e1 ?_ | refine WK.e2 ?_ | (with_reducible refine IL.wr ?_ ?_; focus exact cW) | refine IL.sg ttok ?_ | (refine WK.cn (fun h => ?_) (fun h => ?_); all_goals first | (simp only [reduceCtorEq] at h; done) | (simp only [hsA, hsD, hsE, ne_eq] at h; first | done | (exfalso; omega; done) | skip) | skip))
        all_goals try ((first | refine WK.ret ⟨.inr rfl, ?_⟩ | refine ⟨.inl rfl, ?_⟩ | refine ⟨.inl trivial, ?_⟩); refine Fin.o ?_ ?_ (h1 := by first | rfl | (simp only [go_sem, show Try.f14.results.toList = [.tmp 6] from rfl, reduceIte] <;> rfl)); rotate_left 1; (focus (first | rfl | skip)); all_goals try with_reducible rfl)
        all_goals skip
end Go.Proofs.Ytclhjcbnpdlgbaa.Vc
/- Envelopes and vectors as the document has them, for several layers. -/
namespace Go.Proofs.Ytclhjcbnpdlgbaa
open Go Go.Lift
set_option maxHeartbeats 4000000
set_option linter.unusedSimpArgs false
set_option linter.unusedVariables false
attribute [local irreducible] WK IL IP IG IW DW

def wfC (o : OpV) : Prop := 0 ≤ o.n ∧ (0 ≤ o.m ∧ o.m ≤ 4294967295) ∧ (0 ≤ o.q ∧ o.q ≤ 4294967295) ∧ ∀ x ∈ o.s, (0 ≤ x.2.1 ∧ x.2.1 ≤ 4294967295) ∧ (-9223372036854775808 ≤ x.2.2 ∧ x.2.2 ≤ 9223372036854775807)
abbrev enL (dx : IV) (r s c u : Int) (ox : IV) : List IV := [dx, .v (.int .u16 r), .v (.int .u32 s), .v (.int .u64 c), .v (.int .i64 u), ox]
abbrev enT (d : List Vc.Ve) (r s c u : Int) (ops : List OpV) : List IV := enL (.tr d.length (encs Vc.veC d)) r s c u (.tr ops.length (encs opC ops))
open Classical in
noncomputable def fit10 (d : List Vc.Ve) (r s c u : Int) (ops : List OpV) : Int := if Vc.rightB d = true ∧ Vc.getV d r = 0 then fit9 s c u ops else 11
theorem fit10_ok {d : List Vc.Ve} {r s c u : Int} {ops : List OpV} (h : fit10 d r s c u ops = 0) : Vc.rightB d = true ∧ Vc.getV d r = 0 ∧ fit9 s c u ops = 0 := by
  unfold fit10 at h
  split at h
  · rename_i h1; exact ⟨h1.1, h1.2, h⟩
  · cases h
def wfD (d : List Vc.Ve) : Prop := ∀ x ∈ d, (0 ≤ x.1 ∧ x.1 ≤ 65535) ∧ (0 ≤ x.2 ∧ x.2 ≤ 4294967295)
theorem rFit10_call (d : List Vc.Ve) (r s c u : Int) (ops : List OpV) (hd : d.length ≤ 100000) (hw : wfD d) (hl : ops.length ≤ 40) (hsz : ∀ o ∈ ops, o.t.length ≤ 1000 ∧ o.s.length ≤ 1024) (hwo : ∀ o ∈ ops, wfC o) :
    SCall Try.prog 34 [.agg (enT d r s c u ops)] (.v (.int .i64 (fit10 d r s c u ops))) [.agg (enT d r s c u ops)] := by
  have hrr := Vc.refRight_call d (by omega) (fun x hx => (hw x hx).1)
  have hf9 := fit9_call r s c u ops ops.length rfl hl (fun o ho => by
    have h1 := hsz o ho
    have h2 := hwo o ho
    unfold wfC at h2
    exact ⟨h1.1, h1.2, h2.1, h2.2.2.1.1, h2.2.1.1, h2.2.1.2⟩)
  unfold fit10
  by_cases h1 : Vc.rightB d = true
  · have hrg := Vc.refGet_call d r (Vc.rightB_inv h1).1 (by omega)
    rw [h1] at hrr
    by_cases h2 : Vc.getV d r = 0
    · rw [if_pos ⟨h1, h2⟩]
      rw [h2] at hrg
      generalize fit9 s c u ops = e at *
      refine SCall.of_body' (TT := TT) (fun _ => false) [false] ttok Try.func34 rfl (Nat.le_of_ble_eq_true rfl) rfl fun fx hfx => WK.top ?_
      simp only [impl, imp, argT, List.append_nil, List.map_nil, List.nil_append, show Try.f34.ntmps = 19 from rfl, Nat.zero_add, Nat.reduceAdd]
      repeat' (first | refine WK.seq ?_ | refine WK.reg ?_ | refine IL.nil ?_ | refine WK.skip ?_ | (with_reducible refine IL.wr ?_ ?_; focus exact cW) | refine IL.sg ttok ?_ | refine IL.nn ?_ | refine IL.cS ttok ent21 [.bor, .bor] true ?_ (hS := by exact hrg) | refine IL.cS ttok ent32 [.bor] true ?_ (hS := by exact hrr) | refine IL.cS ttok ent55 [.bor] true ?_ (hS := by exact hf9) | ((first | ((first | refine IL.ag (fun h => ?_) (fun h => ?_) | refine IL.ap (fun h => ?_) (fun h => ?_)); (fail_if_success (focus (simp only [reduceCtorEq] at h)))) | refine WK.cn (fun h => ?_) (fun h => ?_)); all_goals first | (simp only [reduceCtorEq] at h; done) | (simp only [hsA, hsD, hsE, ne_eq] at h; first | done | (exfalso; omega; done) | skip) | skip))
      all_goals try ((first | refine WK.ret ⟨.inr rfl, ?_⟩ | refine ⟨.inl rfl, ?_⟩ | refine ⟨.inl trivial, ?_⟩); refine Fin.o ?_ ?_ (h1 := by first | rfl | (simp only [go_sem, show Try.f34.results.toList = [.tmp 2] from rfl, reduceIte] <;> rfl)); rotate_left 1; (focus (first | rfl | skip)); all_goals try with_reducible rfl)
      all_goals skip
    · rw [if_neg (fun h => h2 h.2)]
      have hb : (Vc.getV d r != 0) = true := by simpa using h2
      generalize Vc.getV d r = g at *
      refine SCall.of_body' (TT := TT) (fun _ => false) [false] ttok Try.func34 rfl (Nat.le_of_ble_eq_true rfl) rfl fun fx hfx => WK.top ?_
      simp only [impl, imp, argT, List.append_nil, List.map_nil, List.nil_append, show Try.f34.ntmps = 19 from rfl, Nat.zero_add, Nat.reduceAdd]
      have FX := hb
      repeat' (first | refine WK.seq ?_ | refine WK.reg ?_ | refine IL.nil ?_ | refine WK.skip ?_ | (with_reducible refine IL.wr ?_ ?_; focus exact cW) | refine IL.sgF ttok ?_ | refine IL.nn ?_ | refine IL.cSF ttok ent21 [.bor, .bor] true ?_ (hS := by exact hrg) | refine IL.cSF ttok ent32 [.bor] true ?_ (hS := by exact hrr) | refine IL.cSF ttok ent55 [.bor] true ?_ (hS := by exact hf9) | ((first | ((first | refine IL.ag (fun h => ?_) (fun h => ?_) | refine IL.ap (fun h => ?_) (fun h => ?_)); (fail_if_success (focus (simp only [reduceCtorEq] at h)))) | refine WK.cn (fun h => ?_) (fun h => ?_)); all_goals first | (simp only [reduceCtorEq] at h; done) | (simp only [hsA, hsD, hsE, ne_eq] at h; first | done | (exfalso; omega; done) | skip) | skip))
      all_goals try ((first | refine WK.ret ⟨.inr rfl, ?_⟩ | refine ⟨.inl rfl, ?_⟩ | refine ⟨.inl trivial, ?_⟩); refine Fin.o ?_ ?_ (h1 := by first | rfl | (simp only [go_sem, show Try.f34.results.toList = [.tmp 2] from rfl, reduceIte] <;> rfl)); rotate_left 1; (focus (first | rfl | skip)); all_goals try with_reducible rfl)
      all_goals skip
  · rw [if_neg (fun h => h1 h.1)]
    rw [Bool.eq_false_iff.2 h1] at hrr
    refine SCall.of_body' (TT := TT) (fun _ => false) [false] ttok Try.func34 rfl (Nat.le_of_ble_eq_true rfl) rfl fun fx hfx => WK.top ?_
    simp only [impl, imp, argT, List.append_nil, List.map_nil, List.nil_append, show Try.f34.ntmps = 19 from rfl, Nat.zero_add, Nat.reduceAdd]
    repeat' (first | refine WK.seq ?_ | refine WK.reg ?_ | refine IL.nil ?_ | refine WK.skip ?_ | (with_reducible refine IL.wr ?_ ?_; focus exact cW) | refine IL.sg ttok ?_ | refine IL.nn ?_ | refine IL.cS ttok ent21 [.bor, .bor] true ?_ (hS := by exact hrg) | refine IL.cS ttok ent32 [.bor] true ?_ (hS := by exact hrr) | refine IL.cS ttok ent55 [.bor] true ?_ (hS := by exact hf9) | ((first | ((first | refine IL.ag (fun h => ?_) (fun h => ?_) | refine IL.ap (fun h => ?_) (fun h => ?_)); (fail_if_success (focus (simp only [reduceCtorEq] at h)))) | refine WK.cn (fun h => ?_) (fun h => ?_)); all_goals first | (simp only [reduceCtorEq] at h; done) | (simp only [hsA, hsD, hsE, ne_eq] at h; first | done | (exfalso; omega; done) | skip) | skip))
    all_goals try ((first | refine WK.ret ⟨.inr rfl, ?_⟩ | refine ⟨.inl rfl, ?_⟩ | refine ⟨.inl trivial, ?_⟩); refine Fin.o ?_ ?_ (h1 := by first | rfl | (simp only [go_sem, show Try.f34.results.toList = [.tmp 2] from rfl, reduceIte] <;> rfl)); rotate_left 1; (focus (first | rfl | skip)); all_goals try with_reducible rfl)
    all_goals skip
theorem vecS_call (l : List Vc.Ve) (hl : l.length * 8 ≤ 140737488355328) : SCall Try.prog 10 [.tr l.length (encs Vc.veC l)] (.own 90 l.length true (encs Vc.veC l)) [.tr l.length (encs Vc.veC l)] := by
  refine SCall.of_body' (TT := TT) (fun _ => false) [false] ttok Try.func10 rfl (Nat.le_of_ble_eq_true rfl) rfl fun fx hfx => WK.top ?_
  simp only [impl, imp, argT, List.append_nil, List.map_nil, List.nil_append, show Try.f10.ntmps = 18 from rfl, Nat.zero_add, Nat.reduceAdd]
  repeat' (first | refine WK.seq ?_ | refine WK.reg ?_ | refine IL.nil ?_ | refine WK.skip ?_ | refine WK.block ?_ | refine WK.exit_here ?_ | refine WK.e1 ?_ | refine WK.e2 ?_ | (with_reducible refine IL.wr ?_ ?_; focus exact cW) | refine IL.sg ttok ?_ | (refine WK.cn (fun h => ?_) (fun h => ?_); all_goals first | (simp only [reduceCtorEq] at h; done) | (simp only [hsA, hsD, hsE, ne_eq] at h; first | done | (exfalso; omega; done) | skip) | skip))
  refine WK.forS l.length (fun k => True) (fun k => ⟨18, [(3, .sl 0 0 0 (l.take k).length), (6, .tr l.length (encs Vc.veC l)), (7, .v (.int .i64 l.length)), (8, .v (.int .i64 k))], [some ⟨true, 90, (l.take k).length, true, encs Vc.veC (l.take k), 0, false⟩]⟩) ⟨trivial, ?_⟩ (fun k hk ho => ?_) (fun ho => ?_)
  · (refine Weak.renS [1] hfx rfl ?_ ?_ rfl <;> (simp only [go_sem, reduceIte, exists_eq_left', exists_eq_left, Blk.mk.injEq, List.take_zero, List.length_nil, encs_nil] <;> (try and_intros) <;> first | rfl | omega))
  · have hx : l[k]? = some l[k] := List.getElem?_eq_getElem hk
    have hle : k * 2 + 2 ≤ l.length * 2 := by omega
    have hat : ((encs Vc.veC l).drop (k * 2)).take 2 = [.v (.int .u16 l[k].1), .v (.int .u32 l[k].2)] := encs_at Vc.veC_length hx
    have hne : encs Vc.veC l ≠ [] := encs_ne Vc.veC_length (by decide) hx
    have htl : (l.take k).length = k := by rw [List.length_take]; omega
    have htk : l.take (k + 1) = l.take k ++ [l[k]] := by rw [List.take_add_one, hx]; rfl
    have hln : (l.take (k + 1)).length = (l.take k).length + 1 := by rw [List.length_take, List.length_take]; omega
    have hcs : encs Vc.veC (l.take k) ++ [.v (.int .u16 l[k].1), .v (.int .u32 l[k].2)] = encs Vc.veC (l.take (k + 1)) := by rw [htk, ← encs_snoc]; rfl
    have FX := And.intro hat hle
    repeat' (first | refine WK.seq ?_ | refine WK.reg ?_ | refine IL.nil ?_ | refine WK.skip ?_ | refine WK.block ?_ | refine WK.exit_here ?_ | refine WK.e1 ?_ | refine WK.e2 ?_ | (with_reducible refine IL.wr ?_ ?_; focus exact cW) | refine IL.sgF ttok ?_ | (refine WK.cn (fun h => ?_) (fun h => ?_); all_goals first | (simp only [reduceCtorEq] at h; done) | (simp only [hsA, hsD, hsE, ne_eq] at h; first | done | (exfalso; omega; done) | skip) | skip))
    all_goals first | (refine Weak.renS [0] hfx rfl ?_ ?_ rfl <;> (simp only [go_sem, reduceIte, exists_eq_left', exists_eq_left, Blk.mk.injEq, hln, hcs] <;> (try and_intros) <;> first | rfl | omega)) | (refine ⟨?_, ?_⟩; rotate_left 1; (focus (refine Weak.renS [0] hfx rfl ?_ ?_ rfl <;> (simp only [go_sem, reduceIte, exists_eq_left', exists_eq_left, Blk.mk.injEq, hln, hcs] <;> (try and_intros) <;> first | rfl | omega))); first | trivial | assumption | omega | grind) | grind
  · repeat' (first | refine WK.seq ?_ | refine WK.reg ?_ | refine IL.nil ?_ | refine WK.skip ?_ | refine WK.block ?_ | refine WK.exit_here ?_ | refine WK.e1 ?_ | refine WK.e2 ?_ | (with_reducible refine IL.wr ?_ ?_; focus exact cW) | refine IL.sg ttok ?_ | (refine WK.cn (fun h => ?_) (fun h => ?_); all_goals first | (simp only [reduceCtorEq] at h; done) | (simp only [hsA, hsD, hsE, ne_eq] at h; first | done | (exfalso; omega; done) | skip) | skip))
    all_goals try ((first | refine WK.ret ⟨.inr rfl, ?_⟩ | refine ⟨.inl rfl, ?_⟩ | refine ⟨.inl trivial, ?_⟩); refine Fin.o ?_ ?_ (h1 := by first | rfl | (simp only [go_sem, show Try.f10.results.toList = [.tmp 2] from rfl, reduceIte] <;> rfl)); rotate_left 1; (focus (first | rfl | skip)); all_goals try with_reducible rfl)
theorem envS_call (d : List Vc.Ve) (r s c u : Int) (ops : List OpV) (hd : d.length * 8 ≤ 140737488355328) (hl : ops.length * 72 ≤ 140737488355328) (h16 : ∀ o ∈ ops, o.s.length * 16 ≤ 140737488355328) :
    SCall Try.prog 12 [.agg (enT d r s c u ops)] (.ago (enL (.own 90 d.length true (encs Vc.veC d)) r s c u (.own 120 ops.length false (encs opC ops)))) [.agg (enT d r s c u ops)] := by
  have hde := vecS_call d hd
  have hmt := madeTxn_call r s c u ops ops.length rfl hl h16
  refine SCall.of_body' (TT := TT) (fun _ => false) [false] ttok Try.func12 rfl (Nat.le_of_ble_eq_true rfl) rfl fun fx hfx => WK.top ?_
  simp only [impl, imp, argT, List.append_nil, List.map_nil, List.nil_append, show Try.f12.ntmps = 10 from rfl, Nat.zero_add, Nat.reduceAdd]
  repeat' (first | refine WK.seq ?_ | refine WK.reg ?_ | refine IL.nil ?_ | refine WK.drawnS (id := 1) mixed [1] [2, 5, 7] [0, 0, 0, 0, 0, 1, 2, 2] [0, 0, 0, 1, 1, 1, 2, 2] (by decide +kernel) ?_ | refine DW.nil ?_ | (with_reducible refine IL.wr ?_ ?_; focus exact cW) | (with_reducible refine DW.wr ?_ ?_; focus exact cW) | refine IL.sg ttok ?_ | refine DW.re ttok ?_ | refine DW.rm ttok ?_ | refine DW.bk ttok ?_ | refine DW.cS ttok ent10 [.bor] true ?_ (hS := by exact hde) | refine DW.cS ttok ent39 [.bor] false ?_ (hS := by exact hmt))
  all_goals try ((first | refine WK.ret ⟨.inr rfl, ?_⟩ | refine ⟨.inl rfl, ?_⟩ | refine ⟨.inl trivial, ?_⟩); refine Fin.o ?_ ?_ (h1 := by first | rfl | (simp only [go_sem, show Try.f12.results.toList = [.cell 2 49] from rfl, reduceIte] <;> rfl)); rotate_left 1; (focus (first | rfl | skip)); all_goals try with_reducible rfl)
  all_goals skip
theorem envS_frz (d : List Vc.Ve) (r s c u : Int) (ops : List OpV) (hd : d.length * 8 ≤ 140737488355328) (hl : ops.length * 72 ≤ 140737488355328) (h16 : ∀ o ∈ ops, o.s.length * 16 ≤ 140737488355328) :
    SCall Try.prog 12 [.agg (enT d r s c u ops)] (.agg (enT d r s c u ops)) [.agg (enT d r s c u ops)] := by
  have h := SCall.frz (envS_call d r s c u ops hd hl h16) rfl
  exact h
open Classical in
def smallE (d : List Vc.Ve) (r s c u : Int) (ops : List OpV) : Prop := (d.length ≤ 100 ∧ smallT ops) ∧ fit10 d r s c u ops = 0
open Classical in
theorem smallS_call (d : List Vc.Ve) (r s c u : Int) (ops : List OpV) (hd : d.length * 8 ≤ 140737488355328) (hw : wfD d) (hl : ops.length * 72 ≤ 140737488355328) (h16 : ∀ o ∈ ops, o.s.length * 16 ≤ 140737488355328) (ht : ∀ o ∈ ops, o.t.length ≤ 9223372036854775807 ∧ o.s.length ≤ 9223372036854775807) (hwo : ∀ o ∈ ops, wfC o) :
    SCall Try.prog 8 [.agg (enT d r s c u ops)] (.v (.bool (decide (smallE d r s c u ops)))) [.agg (enT d r s c u ops)] := by
  have hsm := small_call r s c u ops ops.length rfl (by omega) ht
  have hes := envS_frz d r s c u ops hd hl h16
  by_cases hS : smallT ops
  rotate_left
  · rw [decide_eq_false hS] at hsm
    rw [decide_eq_false (fun h : smallE d r s c u ops => hS h.1.2)]
    generalize smallT ops = S at *
    refine SCall.of_body' (TT := TT) (fun _ => false) [false] ttok Try.func8 rfl (Nat.le_of_ble_eq_true rfl) rfl fun fx hfx => WK.top ?_
    simp only [impl, imp, argT, List.append_nil, List.map_nil, List.nil_append, show Try.f8.ntmps = 18 from rfl, Nat.zero_add, Nat.reduceAdd]
    repeat' (first | refine WK.seq ?_ | refine WK.reg ?_ | refine IL.nil ?_ | (with_reducible refine IL.wr ?_ ?_; focus exact cW) | refine IL.sg ttok ?_ | refine IL.nn ?_ | refine IL.cS ttok ent12 [.bor] false ?_ (hS := by exact hes) | refine IL.cS ttok ent33 [.bor] true ?_ (hS := by exact hsm) | refine IL.cS ttok ent34 [.bor] true ?_ (hS := by exact hfi) | (((first | refine IL.ag (fun h => ?_) (fun h => ?_) | refine IL.ap (fun h => ?_) (fun h => ?_)); (fail_if_success (focus (simp only [reduceCtorEq] at h)))); all_goals first | (simp only [reduceCtorEq] at h; done) | (simp only [hsA, hsD, hsE, ne_eq] at h; first | done | (exfalso; omega; done) | skip) | skip))
    all_goals try ((first | refine WK.ret ⟨.inr rfl, ?_⟩ | refine ⟨.inl rfl, ?_⟩ | refine ⟨.inl trivial, ?_⟩); refine Fin.o ?_ ?_ (h1 := by first | rfl | (simp only [go_sem, show Try.f8.results.toList = [.tmp 2] from rfl, reduceIte] <;> rfl)); rotate_left 1; (focus (first | rfl | skip)); all_goals try with_reducible rfl)
    all_goals skip
  rw [decide_eq_true hS] at hsm
  by_cases h100 : d.length ≤ 100
  rotate_left
  · rw [decide_eq_false (fun h : smallE d r s c u ops => h100 h.1.1)]
    refine SCall.of_body' (TT := TT) (fun _ => false) [false] ttok Try.func8 rfl (Nat.le_of_ble_eq_true rfl) rfl fun fx hfx => WK.top ?_
    simp only [impl, imp, argT, List.append_nil, List.map_nil, List.nil_append, show Try.f8.ntmps = 18 from rfl, Nat.zero_add, Nat.reduceAdd]
    repeat' (first | refine WK.seq ?_ | refine WK.reg ?_ | refine IL.nil ?_ | (with_reducible refine IL.wr ?_ ?_; focus exact cW) | refine IL.sg ttok ?_ | refine IL.nn ?_ | refine IL.cS ttok ent12 [.bor] false ?_ (hS := by exact hes) | refine IL.cS ttok ent33 [.bor] true ?_ (hS := by exact hsm) | refine IL.cS ttok ent34 [.bor] true ?_ (hS := by exact hfi) | (((first | refine IL.ag (fun h => ?_) (fun h => ?_) | refine IL.ap (fun h => ?_) (fun h => ?_)); (fail_if_success (focus (simp only [reduceCtorEq] at h)))); all_goals first | (simp only [reduceCtorEq] at h; done) | (simp only [hsA, hsD, hsE, ne_eq] at h; first | done | (exfalso; omega; done) | skip) | skip))
    all_goals try ((first | refine WK.ret ⟨.inr rfl, ?_⟩ | refine ⟨.inl rfl, ?_⟩ | refine ⟨.inl trivial, ?_⟩); refine Fin.o ?_ ?_ (h1 := by first | rfl | (simp only [go_sem, show Try.f8.results.toList = [.tmp 2] from rfl, reduceIte] <;> rfl)); rotate_left 1; (focus (first | rfl | skip)); all_goals try with_reducible rfl)
    all_goals skip
  have hfi := rFit10_call d r s c u ops (by omega) hw hS.1 (fun o ho => by have := hS.2 o ho; unfold smallO at this; omega) hwo
  have hB : decide (smallE d r s c u ops) = (fit10 d r s c u ops == 0) := by
    by_cases h0 : fit10 d r s c u ops = 0
    · rw [decide_eq_true (show smallE d r s c u ops from ⟨⟨h100, hS⟩, h0⟩), h0]; rfl
    · rw [decide_eq_false (fun h : smallE d r s c u ops => h0 h.2)]
      exact (beq_eq_false_iff_ne.2 h0).symm
  rw [hB]
  generalize fit10 d r s c u ops = F at *
  refine SCall.of_body' (TT := TT) (fun _ => false) [false] ttok Try.func8 rfl (Nat.le_of_ble_eq_true rfl) rfl fun fx hfx => WK.top ?_
  simp only [impl, imp, argT, List.append_nil, List.map_nil, List.nil_append, show Try.f8.ntmps = 18 from rfl, Nat.zero_add, Nat.reduceAdd]
  repeat' (first | refine WK.seq ?_ | refine WK.reg ?_ | refine IL.nil ?_ | (with_reducible refine IL.wr ?_ ?_; focus exact cW) | refine IL.sg ttok ?_ | refine IL.nn ?_ | refine IL.cS ttok ent12 [.bor] false ?_ (hS := by exact hes) | refine IL.cS ttok ent33 [.bor] true ?_ (hS := by exact hsm) | refine IL.cS ttok ent34 [.bor] true ?_ (hS := by exact hfi) | (((first | refine IL.ag (fun h => ?_) (fun h => ?_) | refine IL.ap (fun h => ?_) (fun h => ?_)); (fail_if_success (focus (simp only [reduceCtorEq] at h)))); all_goals first | (simp only [reduceCtorEq] at h; done) | (simp only [hsA, hsD, hsE, ne_eq] at h; first | done | (exfalso; omega; done) | skip) | skip))
  all_goals try ((first | refine WK.ret ⟨.inr rfl, ?_⟩ | refine ⟨.inl rfl, ?_⟩ | refine ⟨.inl trivial, ?_⟩); refine Fin.o ?_ ?_ (h1 := by first | rfl | (simp only [go_sem, show Try.f8.results.toList = [.tmp 2] from rfl, reduceIte] <;> rfl)); rotate_left 1; (focus (first | rfl | skip)); all_goals try with_reducible rfl)
  all_goals skip
theorem rightS_call (v : List Vc.Ve) (hv : ∀ x ∈ v, 0 ≤ x.1 ∧ x.1 ≤ 65535) (h8 : v.length * 8 ≤ 140737488355328) : SCall Try.prog 7 [.tr v.length (encs Vc.veC v)] (.v (.bool (decide (v.length ≤ 100) && Vc.rightB v))) [.tr v.length (encs Vc.veC v)] := by
  have hvs := SCall.frz (vecS_call v h8) rfl
  simp only [frzR] at hvs
  by_cases h100 : v.length ≤ 100
  · have hrr := Vc.refRight_call v (by omega) hv
    rw [decide_eq_true h100, Bool.true_and]
    generalize Vc.rightB v = B at *
    refine SCall.of_body' (TT := TT) (fun _ => false) [false] ttok Try.func7 rfl (Nat.le_of_ble_eq_true rfl) rfl fun fx hfx => WK.top ?_
    simp only [impl, imp, argT, List.append_nil, List.map_nil, List.nil_append, show Try.f7.ntmps = 11 from rfl, Nat.zero_add, Nat.reduceAdd]
    repeat' (first | refine WK.seq ?_ | refine WK.reg ?_ | refine IL.nil ?_ | (with_reducible refine IL.wr ?_ ?_; focus exact cW) | refine IL.sg ttok ?_ | refine IL.nn ?_ | refine IL.cS ttok ent10 [.bor] false ?_ (hS := by exact hvs) | refine IL.cS ttok ent32 [.bor] true ?_ (hS := by exact hrr) | (((first | refine IL.ag (fun h => ?_) (fun h => ?_) | refine IL.ap (fun h => ?_) (fun h => ?_)); (fail_if_success (focus (simp only [reduceCtorEq] at h)))); all_goals first | (simp only [reduceCtorEq] at h; done) | (simp only [hsA, hsD, hsE, ne_eq] at h; first | done | (exfalso; omega; done) | skip) | skip))
    all_goals try ((first | refine WK.ret ⟨.inr rfl, ?_⟩ | refine ⟨.inl rfl, ?_⟩ | refine ⟨.inl trivial, ?_⟩); refine Fin.o ?_ ?_ (h1 := by first | rfl | (simp only [go_sem, show Try.f7.results.toList = [.tmp 2] from rfl, reduceIte] <;> rfl)); rotate_left 1; (focus (first | rfl | skip)); all_goals try with_reducible rfl)
    all_goals skip
  · rw [decide_eq_false h100, Bool.false_and]
    refine SCall.of_body' (TT := TT) (fun _ => false) [false] ttok Try.func7 rfl (Nat.le_of_ble_eq_true rfl) rfl fun fx hfx => WK.top ?_
    simp only [impl, imp, argT, List.append_nil, List.map_nil, List.nil_append, show Try.f7.ntmps = 11 from rfl, Nat.zero_add, Nat.reduceAdd]
    repeat' (first | refine WK.seq ?_ | refine WK.reg ?_ | refine IL.nil ?_ | (with_reducible refine IL.wr ?_ ?_; focus exact cW) | refine IL.sg ttok ?_ | refine IL.nn ?_ | refine IL.cS ttok ent10 [.bor] false ?_ (hS := by exact hvs) | refine IL.cS ttok ent32 [.bor] true ?_ (hS := by exact hrr) | (((first | refine IL.ag (fun h => ?_) (fun h => ?_) | refine IL.ap (fun h => ?_) (fun h => ?_)); (fail_if_success (focus (simp only [reduceCtorEq] at h)))); all_goals first | (simp only [reduceCtorEq] at h; done) | (simp only [hsA, hsD, hsE, ne_eq] at h; first | done | (exfalso; omega; done) | skip) | skip))
    all_goals try ((first | refine WK.ret ⟨.inr rfl, ?_⟩ | refine ⟨.inl rfl, ?_⟩ | refine ⟨.inl trivial, ?_⟩); refine Fin.o ?_ ?_ (h1 := by first | rfl | (simp only [go_sem, show Try.f7.results.toList = [.tmp 2] from rfl, reduceIte] <;> rfl)); rotate_left 1; (focus (first | rfl | skip)); all_goals try with_reducible rfl)
    all_goals skip
theorem sameV_call (v w : List Vc.Ve) (hv : v.length ≤ 100000) : SCall Try.prog 19 [.tr v.length (encs Vc.veC v), .tr w.length (encs Vc.veC w)] (.v (.bool (decide (v = w)))) [.tr v.length (encs Vc.veC v), .tr w.length (encs Vc.veC w)] := by
  by_cases hl : v.length = w.length
  rotate_left
  · rw [decide_eq_false (fun h => hl (by rw [h]))]
    have hl2 : ((v.length : Int) != (w.length : Int)) = true := by simpa using fun h : (v.length : Int) = w.length => hl (by omega)
    refine SCall.of_body' (TT := TT) (fun _ => false) [false, false] ttok Try.func19 rfl (Nat.le_of_ble_eq_true rfl) rfl fun fx hfx => WK.top ?_
    simp only [impl, imp, argT, List.append_nil, List.map_nil, List.nil_append, show Try.f19.ntmps = 26 from rfl, Nat.zero_add, Nat.reduceAdd]
    repeat' (first | refine WK.seq ?_ | refine WK.reg ?_ | refine IL.nil ?_ | refine WK.skip ?_ | refine WK.block ?_ | refine WK.exit_here ?_ | refine WK.e1 ?_ | refine WK.e2 ?_ | refine WK.drawnS (id := 6) mixed [] [] [] [] (by decide +kernel) ?_ | refine DW.nil ?_ | (with_reducible refine IL.wr ?_ ?_; focus exact cW) | (with_reducible refine DW.wr ?_ ?_; focus exact cW) | refine IL.sg ttok ?_ | refine DW.re ttok ?_ | refine DW.rm ttok ?_ | (refine WK.cn (fun h => ?_) (fun h => ?_); all_goals first | (simp only [reduceCtorEq] at h; done) | (simp only [hsA, hsD, hsE, ne_eq] at h; first | done | (exfalso; omega; done) | skip) | skip))
    all_goals try ((first | refine WK.ret ⟨.inr rfl, ?_⟩ | refine ⟨.inl rfl, ?_⟩ | refine ⟨.inl trivial, ?_⟩); refine Fin.o ?_ ?_ (h1 := by first | rfl | (simp only [go_sem, show Try.f19.results.toList = [.tmp 4] from rfl, reduceIte] <;> rfl)); rotate_left 1; (focus (first | rfl | skip)); all_goals try with_reducible rfl)
    all_goals skip
  refine SCall.of_body' (TT := TT) (fun _ => false) [false, false] ttok Try.func19 rfl (Nat.le_of_ble_eq_true rfl) rfl fun fx hfx => WK.top ?_
  simp only [impl, imp, argT, List.append_nil, List.map_nil, List.nil_append, show Try.f19.ntmps = 26 from rfl, Nat.zero_add, Nat.reduceAdd]
  repeat' (first | refine WK.seq ?_ | refine WK.reg ?_ | refine IL.nil ?_ | refine WK.skip ?_ | refine WK.block ?_ | refine WK.exit_here ?_ | refine WK.e1 ?_ | refine WK.e2 ?_ | refine WK.drawnS (id := 6) mixed [] [] [] [] (by decide +kernel) ?_ | refine DW.nil ?_ | (with_reducible refine IL.wr ?_ ?_; focus exact cW) | (with_reducible refine DW.wr ?_ ?_; focus exact cW) | refine IL.sg ttok ?_ | refine DW.re ttok ?_ | refine DW.rm ttok ?_ | (refine WK.cn (fun h => ?_) (fun h => ?_); all_goals first | (simp only [reduceCtorEq] at h; done) | (simp only [hsA, hsD, hsE, ne_eq] at h; first | done | (exfalso; omega; done) | skip) | skip))
  refine WK.forS v.length (fun k => ∀ j, j < k → v[j]? = w[j]?) (fun k => ⟨26, [(0, .tr v.length (encs Vc.veC v)), (1, .tr w.length (encs Vc.veC w)), (12, .v (.int .i64 v.length)), (13, .v (.int .i64 k))], []⟩) ⟨by omega, ?_⟩ (fun k hk ho => ?_) (fun ho => ?_)
  · (refine Weak.renS [] hfx rfl ?_ ?_ rfl <;> (simp only [go_sem, reduceIte, exists_eq_left', exists_eq_left, Blk.mk.injEq] <;> (try and_intros) <;> first | rfl | omega))
  · have hx : v[k]? = some v[k] := List.getElem?_eq_getElem hk
    have hy : w[k]? = some w[k] := List.getElem?_eq_getElem (by omega)
    have hle : k * 2 + 2 ≤ v.length * 2 := by omega
    have hlw : k * 2 + 2 ≤ w.length * 2 := by omega
    have hat : ((encs Vc.veC v).drop (k * 2)).take 2 = [.v (.int .u16 v[k].1), .v (.int .u32 v[k].2)] := encs_at Vc.veC_length hx
    have haw : ((encs Vc.veC w).drop (k * 2)).take 2 = [.v (.int .u16 w[k].1), .v (.int .u32 w[k].2)] := encs_at Vc.veC_length hy
    have hne : encs Vc.veC v ≠ [] := encs_ne Vc.veC_length (by decide) hx
    have hnw : encs Vc.veC w ≠ [] := encs_ne Vc.veC_length (by decide) hy
    by_cases he : v[k] = w[k]
    · have hstep : ∀ j, j < k + 1 → v[j]? = w[j]? := fun j hj => by
        rcases Nat.lt_or_eq_of_le (Nat.le_of_lt_succ hj) with h | rfl
        · exact ho j h
        · exact hx.trans ((congrArg some he).trans hy.symm)
      rw [he] at hat
      clear hx hy he
      generalize w[k] = y at *
      have FX := And.intro hat (And.intro haw (And.intro hle hlw))
      repeat' (first | refine WK.seq ?_ | refine WK.reg ?_ | refine IL.nil ?_ | refine WK.skip ?_ | refine WK.block ?_ | refine WK.exit_here ?_ | refine WK.e1 ?_ | refine WK.e2 ?_ | refine WK.drawnS (id := 6) mixed [] [] [] [] (by decide +kernel) ?_ | refine DW.nil ?_ | (with_reducible refine IL.wr ?_ ?_; focus exact cW) | (with_reducible refine DW.wr ?_ ?_; focus exact cW) | refine IL.sgF ttok ?_ | refine DW.reF ttok ?_ | refine DW.rmF ttok ?_ | (refine WK.cn (fun h => ?_) (fun h => ?_); all_goals first | (simp only [reduceCtorEq] at h; done) | (simp only [hsA, hsD, hsE, ne_eq] at h; first | done | (exfalso; omega; done) | skip) | skip))
      all_goals refine ⟨hstep, ?_⟩
      (refine Weak.renS [] hfx rfl ?_ ?_ rfl <;> (simp only [go_sem, reduceIte, exists_eq_left', exists_eq_left, Blk.mk.injEq] <;> (try and_intros) <;> first | rfl | omega))
    · rw [decide_eq_false (fun h : v = w => he (Option.some.inj ((hx.symm.trans (congrArg (fun l => l[k]?) h)).trans hy)))]
      have hd : ¬ (v[k].1 = w[k].1 ∧ v[k].2 = w[k].2) := fun h => he (Prod.ext h.1 h.2)
      clear hx hy he
      generalize v[k] = x at *
      generalize w[k] = y at *
      have FX := And.intro hat (And.intro haw (And.intro hle hlw))
      repeat' (first | refine WK.seq ?_ | refine WK.reg ?_ | refine IL.nil ?_ | refine WK.skip ?_ | refine WK.block ?_ | refine WK.exit_here ?_ | refine WK.e1 ?_ | refine WK.e2 ?_ | refine WK.drawnS (id := 6) mixed [] [] [] [] (by decide +kernel) ?_ | refine DW.nil ?_ | (with_reducible refine IL.wr ?_ ?_; focus exact cW) | (with_reducible refine DW.wr ?_ ?_; focus exact cW) | refine IL.sgF ttok ?_ | refine DW.reF ttok ?_ | refine DW.rmF ttok ?_ | (refine WK.cn (fun h => ?_) (fun h => ?_); all_goals first | (simp only [reduceCtorEq] at h; done) | (simp only [hsA, hsD, hsE, ne_eq] at h; first | done | (exfalso; omega; done) | skip) | skip))
      all_goals try ((first | refine WK.ret ⟨.inr rfl, ?_⟩ | refine ⟨.inl rfl, ?_⟩ | refine ⟨.inl trivial, ?_⟩); refine Fin.o ?_ ?_ (h1 := by first | rfl | (simp only [go_sem, show Try.f19.results.toList = [.tmp 4] from rfl, reduceIte] <;> rfl)); rotate_left 1; (focus (first | rfl | skip)); all_goals try with_reducible rfl)
  · rw [decide_eq_true (show v = w from List.ext_getElem? fun j => by
      by_cases hj : j < v.length
      · exact ho j hj
      · rw [List.getElem?_eq_none (by omega), List.getElem?_eq_none (by omega)])]
    repeat' (first | refine WK.seq ?_ | refine WK.reg ?_ | refine IL.nil ?_ | refine WK.skip ?_ | refine WK.block ?_ | refine WK.exit_here ?_ | refine WK.e1 ?_ | refine WK.e2 ?_ | refine WK.drawnS (id := 6) mixed [] [] [] [] (by decide +kernel) ?_ | refine DW.nil ?_ | (with_reducible refine IL.wr ?_ ?_; focus exact cW) | (with_reducible refine DW.wr ?_ ?_; focus exact cW) | refine IL.sg ttok ?_ | refine DW.re ttok ?_ | refine DW.rm ttok ?_ | (refine WK.cn (fun h => ?_) (fun h => ?_); all_goals first | (simp only [reduceCtorEq] at h; done) | (simp only [hsA, hsD, hsE, ne_eq] at h; first | done | (exfalso; omega; done) | skip) | skip))
    all_goals try ((first | refine WK.ret ⟨.inr rfl, ?_⟩ | refine ⟨.inl rfl, ?_⟩ | refine ⟨.inl trivial, ?_⟩); refine Fin.o ?_ ?_ (h1 := by first | rfl | (simp only [go_sem, show Try.f19.results.toList = [.tmp 4] from rfl, reduceIte] <;> rfl)); rotate_left 1; (focus (first | rfl | skip)); all_goals try with_reducible rfl)
end Go.Proofs.Ytclhjcbnpdlgbaa
/- package hold: names, in order; where one stands. -/
namespace Go.Proofs.Ytclhjcbnpdlgbaa
open Go Go.Lift
set_option maxHeartbeats 4000000
set_option linter.unusedSimpArgs false
set_option linter.unusedVariables false
attribute [local irreducible] WK IL IP IG IW DW

structure EnV where
  d : List Vc.Ve
  r : Int
  s : Int
  c : Int
  u : Int
  ops : List OpV
def envC (e : EnV) : List IV := enT e.d e.r e.s e.c e.u e.ops
instance : CellsT envC 6 := ⟨fun _ => rfl, fun _ => rfl⟩
theorem envC_length (e : EnV) : (envC e).length = 6 := rfl
def kN (r s : Int) : Int := r * 4294967296 + s
def kE (e : EnV) : Int := kN e.r e.s
def nb (e : EnV) : Prop := (0 ≤ e.r ∧ e.r ≤ 65535) ∧ (0 ≤ e.s ∧ e.s ≤ 4294967295)
def SrtE (l : List EnV) : Prop := l.Pairwise fun a b => kE a < kE b
def posE (l : List EnV) (k : Int) : Nat := l.countP fun x => decide (kE x < k)
theorem posE_le (l : List EnV) (k : Int) : posE l k ≤ l.length := List.countP_le_length
theorem posE_iff : ∀ {l : List EnV} {r : Int}, SrtE l → ∀ k (x : EnV), l[k]? = some x → (kE x < r ↔ k < posE l r)
  | [], r, _, k, x, h => by simp at h
  | a :: l, r, hs, k, x, h => by
    obtain ⟨h1, h2⟩ := List.pairwise_cons.1 hs
    have ih := fun k x => posE_iff (r := r) h2 k x
    unfold posE at *
    rw [List.countP_cons]
    by_cases ha : kE a < r
    · rw [if_pos (by simpa using ha)]
      cases k with
      | zero => simp at h; subst h; exact ⟨fun _ => by omega, fun _ => ha⟩
      | succ k =>
        have := ih k x (by simpa using h)
        omega
    · have h0 : l.countP (fun x => decide (kE x < r)) = 0 := by
        rw [List.countP_eq_zero]
        intro y hy
        have := h1 y hy
        simp only [decide_eq_true_eq]; omega
      rw [if_neg (by simpa using ha), h0]
      cases k with
      | zero => simp at h; subst h; exact ⟨fun h => absurd h ha, fun h => by omega⟩
      | succ k =>
        have hx : x ∈ l := List.mem_of_getElem? (by simpa using h)
        have := h1 x hx
        exact ⟨fun h => by omega, fun h => by omega⟩
def hasE (l : List EnV) (k : Int) : Bool := match l[posE l k]? with
  | some x => decide (kE x = k)
  | none => false
abbrev idI (r s : Int) : IV := .agg [.v (.int .u16 r), .v (.int .u32 s)]
theorem txId_call (r s c u : Int) (ops : List OpV) : SCall Try.prog 17 [.agg (txL r s c u (.tr ops.length (encs opC ops)))] (idI r s) [.agg (txL r s c u (.tr ops.length (encs opC ops)))] := by
  refine SCall.of_body' (TT := TT) (fun _ => false) [false] ttok Try.func17 rfl (Nat.le_of_ble_eq_true rfl) rfl fun fx hfx => WK.top ?_
  simp only [impl, imp, argT, List.append_nil, List.map_nil, List.nil_append, show Try.f17.ntmps = 8 from rfl, Nat.zero_add, Nat.reduceAdd]
  repeat' (first | refine WK.seq ?_ | refine WK.reg ?_ | refine IL.nil ?_ | (with_reducible refine IL.wr ?_ ?_; focus exact cW) | refine IL.sg ttok ?_)
  all_goals try ((first | refine WK.ret ⟨.inr rfl, ?_⟩ | refine ⟨.inl rfl, ?_⟩ | refine ⟨.inl trivial, ?_⟩); refine Fin.o ?_ ?_ (h1 := by first | rfl | (simp only [go_sem, show Try.f17.results.toList = [.cell 2 57] from rfl, reduceIte] <;> rfl)); rotate_left 1; (focus (first | rfl | skip)); all_goals try with_reducible rfl)
  all_goals first | rfl | skip
def ordI (r s r' s' : Int) : Int := if r = r' then s - s' else r - r'
theorem ordI_lt {r s r' s' : Int} (h : 0 ≤ s ∧ s ≤ 4294967295) (h' : 0 ≤ s' ∧ s' ≤ 4294967295) : ordI r s r' s' < 0 ↔ kN r s < kN r' s' := by
  unfold ordI kN; split <;> omega
theorem ordI_eq {r s r' s' : Int} (h : 0 ≤ s ∧ s ≤ 4294967295) (h' : 0 ≤ s' ∧ s' ≤ 4294967295) : ordI r s r' s' = 0 ↔ kN r s = kN r' s' := by
  unfold ordI kN; split <;> omega
theorem order_call (r s r' s' : Int) (h : (0 ≤ r ∧ r ≤ 65535) ∧ (0 ≤ s ∧ s ≤ 4294967295)) (h' : (0 ≤ r' ∧ r' ≤ 65535) ∧ (0 ≤ s' ∧ s' ≤ 4294967295)) : SCall Try.prog 58 [idI r s, idI r' s'] (.v (.int .i64 (ordI r s r' s'))) [idI r s, idI r' s'] := by
  unfold ordI
  by_cases hr : r = r'
  · rw [if_pos hr]
    refine SCall.of_body' (TT := TT) (fun _ => false) [false, false] ttok Try.func58 rfl (Nat.le_of_ble_eq_true rfl) rfl fun fx hfx => WK.top ?_
    simp only [impl, imp, argT, List.append_nil, List.map_nil, List.nil_append, show Try.f58.ntmps = 24 from rfl, Nat.zero_add, Nat.reduceAdd]
    repeat' (first | refine WK.seq ?_ | refine WK.reg ?_ | refine IL.nil ?_ | refine WK.skip ?_ | (with_reducible refine IL.wr ?_ ?_; focus exact cW) | refine IL.sg ttok ?_ | (refine WK.cn (fun h => ?_) (fun h => ?_); all_goals first | (simp only [reduceCtorEq] at h; done) | (simp only [hsA, hsD, hsE, ne_eq] at h; first | done | (exfalso; omega; done) | skip) | skip))
    all_goals try ((first | refine WK.ret ⟨.inr rfl, ?_⟩ | refine ⟨.inl rfl, ?_⟩ | refine ⟨.inl trivial, ?_⟩); refine Fin.o ?_ ?_ (h1 := by first | rfl | (simp only [go_sem, show Try.f58.results.toList = [.tmp 4] from rfl, reduceIte] <;> rfl)); rotate_left 1; (focus (first | rfl | skip)); all_goals try with_reducible rfl)
    all_goals skip
  · rw [if_neg hr]
    refine SCall.of_body' (TT := TT) (fun _ => false) [false, false] ttok Try.func58 rfl (Nat.le_of_ble_eq_true rfl) rfl fun fx hfx => WK.top ?_
    simp only [impl, imp, argT, List.append_nil, List.map_nil, List.nil_append, show Try.f58.ntmps = 24 from rfl, Nat.zero_add, Nat.reduceAdd]
    repeat' (first | refine WK.seq ?_ | refine WK.reg ?_ | refine IL.nil ?_ | refine WK.skip ?_ | (with_reducible refine IL.wr ?_ ?_; focus exact cW) | refine IL.sg ttok ?_ | (refine WK.cn (fun h => ?_) (fun h => ?_); all_goals first | (simp only [reduceCtorEq] at h; done) | (simp only [hsA, hsD, hsE, ne_eq] at h; first | done | (exfalso; omega; done) | skip) | skip))
    all_goals try ((first | refine WK.ret ⟨.inr rfl, ?_⟩ | refine ⟨.inl rfl, ?_⟩ | refine ⟨.inl trivial, ?_⟩); refine Fin.o ?_ ?_ (h1 := by first | rfl | (simp only [go_sem, show Try.f58.results.toList = [.tmp 4] from rfl, reduceIte] <;> rfl)); rotate_left 1; (focus (first | rfl | skip)); all_goals try with_reducible rfl)
    all_goals skip
theorem find1_call (e : EnV) (r s : Int) (h : nb e) (h' : (0 ≤ r ∧ r ≤ 65535) ∧ (0 ≤ s ∧ s ≤ 4294967295)) : SCall Try.prog 57 [.agg (envC e), idI r s] (.v (.int .i64 (ordI e.r e.s r s))) [.agg (envC e), idI r s] := by
  have hor := order_call e.r e.s r s h h'
  unfold envC
  generalize ordI e.r e.s r s = O at *
  refine SCall.of_body' (TT := TT) (fun _ => false) [false, false] ttok Try.func57 rfl (Nat.le_of_ble_eq_true rfl) rfl fun fx hfx => WK.top ?_
  simp only [impl, imp, argT, List.append_nil, List.map_nil, List.nil_append, show Try.f57.ntmps = 10 from rfl, Nat.zero_add, Nat.reduceAdd]
  repeat' (first | refine WK.seq ?_ | refine WK.reg ?_ | refine IL.nil ?_ | refine WK.drawnS (id := 1) mixed [] [2, 4] [0, 0, 0, 0, 1, 2] [0, 0, 0, 1, 1, 2] (by decide +kernel) ?_ | refine DW.nil ?_ | (with_reducible refine IL.wr ?_ ?_; focus exact cW) | (with_reducible refine DW.wr ?_ ?_; focus exact cW) | refine IL.sg ttok ?_ | refine DW.re ttok ?_ | refine DW.rm ttok ?_ | refine DW.cS ttok ent17 [.bor] true ?_ (hS := by exact txId_call _ _ _ _ _) | refine DW.cS ttok ent58 [.bor, .bor] true ?_ (hS := by exact hor))
  all_goals try ((first | refine WK.ret ⟨.inr rfl, ?_⟩ | refine ⟨.inl rfl, ?_⟩ | refine ⟨.inl trivial, ?_⟩); refine Fin.o ?_ ?_ (h1 := by first | rfl | (simp only [go_sem, show Try.f57.results.toList = [.tmp 4] from rfl, reduceIte] <;> rfl)); rotate_left 1; (focus (first | rfl | skip)); all_goals try with_reducible rfl)
  all_goals skip
theorem bsfE_call (l : List EnV) (r s : Int) (hs : SrtE l) (hl : ∀ x ∈ l, nb x) (hr : (0 ≤ r ∧ r ≤ 65535) ∧ (0 ≤ s ∧ s ≤ 4294967295)) (hn : l.length ≤ 1000000) :
    SCallF [] Try.prog 56 [none, none, some (57, 0)] [.tr l.length (encs envC l), idI r s] (.tup [.v (.int .i64 (posE l (kN r s))), .v (.bool (hasE l (kN r s)))]) [.tr l.length (encs envC l), idI r s] := by
  generalize hK : kN r s = K
  have hp := posE_le l K
  refine SCallF.of_body' (G := []) [none, none, some (57, 0)] (TT := TT) (fun k => decide (k < 0)) [false, false] ttok Try.func56 rfl (Nat.le_of_ble_eq_true rfl) rfl fun fx hfx hgf => WK.top ?_
  simp only [impl, imp, argT, packIV, pk, List.take_succ_cons, List.drop_succ_cons, List.take_zero, List.drop_zero, List.append_nil, List.map_nil, List.map_cons, List.nil_append, List.cons_append, List.length_cons, List.length_nil, show Try.f56.ntmps = 49 from rfl, Nat.zero_add, Nat.reduceAdd]
  repeat' (first | refine WK.seq ?_ | refine WK.reg ?_ | refine IL.nil ?_ | refine WK.skip ?_ | refine WK.block ?_ | refine WK.exit_here ?_ | refine WK.e1 ?_ | refine WK.e2 ?_ | refine WK.drawnS (id := 5) mixed [] [6] [0, 0, 0, 0, 0, 0, 0, 1] [0, 0, 0, 0, 0, 0, 0, 1] (by decide +kernel) ?_ | refine WK.drawnS (id := 8) mixed [] [11] [0, 0, 0, 0, 0, 0, 0, 0, 0, 0, 0, 0, 1, 1, 1, 1] [1, 0, 0, 0, 0, 0, 0, 0, 0, 0, 0, 0, 1, 1, 1, 1] (by decide +kernel) ?_ | refine DW.nil ?_ | (with_reducible refine IL.wr ?_ ?_; focus exact cW) | (with_reducible refine DW.wr ?_ ?_; focus exact cW) | refine IL.sg ttok ?_ | refine DW.re ttok ?_ | refine DW.rm ttok ?_ | refine DW.nn ?_ | refine DW.nb ?_ | refine DW.cS ttok ent57 [.bor, .bor] true ?_ (hS := by exact hcm) | ((first | ((first | refine DW.ag (fun h => ?_) (fun h => ?_) | refine DW.ap (fun h => ?_) (fun h => ?_)); (fail_if_success (focus (simp only [reduceCtorEq] at h)))) | refine WK.cn (fun h => ?_) (fun h => ?_)); all_goals first | (simp only [reduceCtorEq] at h; done) | (simp only [hsA, hsD, hsE, ne_eq] at h; first | done | (exfalso; omega; done) | skip) | skip))
  refine WK.whileS (α := Nat × Nat) (fun x => x.2 - x.1) (fun x => x.1 ≤ posE l K ∧ posE l K ≤ x.2 ∧ x.2 ≤ l.length) (fun x => ⟨49, [(0, .tr l.length (encs envC l)), (2, .fn (.func 57) []), (4, .ptr 0 0 0), (8, .v (.int .i64 l.length)), (9, .v (.int .i64 (x.1 : Nat))), (10, .v (.int .i64 (x.2 : Nat)))], [some ⟨false, 0, 1, false, [.v (.int .u16 r), .v (.int .u32 s)], 0, false⟩]⟩) (0, l.length) ⟨⟨Nat.zero_le _, hp, Nat.le_refl _⟩, ?_⟩ ?_
  · (refine Weak.renS [0] hfx rfl ?_ ?_ rfl <;> (simp only [go_sem, reduceIte, exists_eq_left', exists_eq_left, Blk.mk.injEq] <;> (try and_intros) <;> first | rfl | omega))
  · rintro ⟨i, j⟩ ⟨h1, h2, h3⟩
    simp only at h1 h2 h3
    by_cases hij : i < j
    · have hh : (i + j) / 2 < l.length := by omega
      have hx : l[(i + j) / 2]? = some l[(i + j) / 2] := List.getElem?_eq_getElem hh
      have hpi := posE_iff hs _ _ hx (r := K)
      have hb1 := hl _ (List.getElem_mem hh)
      have hcm := find1_call l[(i + j) / 2] r s hb1 hr
      have hlt := ordI_lt (r := l[(i + j) / 2].r) (r' := r) hb1.2 hr.2
      rw [hK] at hlt
      have hat : ((encs envC l).drop ((i + j) / 2 * 6)).take 6 = envC l[(i + j) / 2] := encs_at envC_length hx
      have hle : (i + j) / 2 * 6 + 6 ≤ l.length * 6 := by omega
      have hne : encs envC l ≠ [] := encs_ne envC_length (by decide) hx
      have hw : IntKind.i64.wrap ((i : Int) + (j : Int)) = (i : Int) + (j : Int) := wrap_i64 (by omega) (by omega)
      have hsh : ((i : Int) + (j : Int)).fdiv (2 ^ min 1 64) = (((i + j) / 2 : Nat) : Int) := by
        rw [show min 1 64 = 1 from rfl, Int.fdiv_eq_ediv_of_nonneg _ (by decide)]; omega
      have hsh2 : ((i : Int) + (j : Int)).fdiv (2 ^ 1) = (((i + j) / 2 : Nat) : Int) := by
        rw [Int.fdiv_eq_ediv_of_nonneg _ (by decide)]; omega
      have hkx : kE l[(i + j) / 2] < K ↔ ordI l[(i + j) / 2].r l[(i + j) / 2].s r s < 0 := hlt.symm
      rw [hkx] at hpi
      clear hlt hkx hx hb1
      generalize ordI l[(i + j) / 2].r l[(i + j) / 2].s r s = O at *
      generalize l[(i + j) / 2] = x at *
      generalize hm : (i + j) / 2 = m at *
      have FX := And.intro hat (And.intro hle (And.intro hsh hsh2))
      repeat' (first | refine WK.seq ?_ | refine WK.reg ?_ | refine IL.nil ?_ | refine WK.skip ?_ | refine WK.block ?_ | refine WK.exit_here ?_ | refine WK.e1 ?_ | refine WK.e2 ?_ | refine WK.drawnS (id := 5) mixed [] [6] [0, 0, 0, 0, 0, 0, 0, 1] [0, 0, 0, 0, 0, 0, 0, 1] (by decide +kernel) ?_ | refine WK.drawnS (id := 8) mixed [] [11] [0, 0, 0, 0, 0, 0, 0, 0, 0, 0, 0, 0, 1, 1, 1, 1] [1, 0, 0, 0, 0, 0, 0, 0, 0, 0, 0, 0, 1, 1, 1, 1] (by decide +kernel) ?_ | refine DW.nil ?_ | (with_reducible refine IL.wr ?_ ?_; focus exact cW) | (with_reducible refine DW.wr ?_ ?_; focus exact cW) | refine IL.sgF ttok ?_ | refine DW.reF ttok ?_ | refine DW.rmF ttok ?_ | refine DW.nn ?_ | refine DW.nb ?_ | refine DW.cSF ttok ent57 [.bor, .bor] true ?_ (hS := by exact hcm) | ((first | ((first | refine DW.ag (fun h => ?_) (fun h => ?_) | refine DW.ap (fun h => ?_) (fun h => ?_)); (fail_if_success (focus (simp only [reduceCtorEq] at h)))) | refine WK.cn (fun h => ?_) (fun h => ?_)); all_goals first | (simp only [reduceCtorEq] at h; done) | (simp only [hsA, hsD, hsE, ne_eq] at h; first | done | (exfalso; omega; done) | skip) | skip))
      · refine ⟨(m + 1, j), by simp only; omega, ⟨by simp only; omega, h2, h3⟩, ?_⟩
        (refine Weak.renS [0] hfx rfl ?_ ?_ rfl <;> (simp only [go_sem, reduceIte, exists_eq_left', exists_eq_left, Blk.mk.injEq] <;> (try and_intros) <;> first | rfl | omega))
      · refine ⟨(i, m), by simp only; omega, ⟨h1, by simp only; omega, by simp only; omega⟩, ?_⟩
        (refine Weak.renS [0] hfx rfl ?_ ?_ rfl <;> (simp only [go_sem, reduceIte, exists_eq_left', exists_eq_left, Blk.mk.injEq] <;> (try and_intros) <;> first | rfl | omega))
    · obtain rfl : i = posE l K := by omega
      obtain rfl : j = posE l K := by omega
      by_cases hp2 : posE l K < l.length
      · have hx : l[posE l K]? = some l[posE l K] := List.getElem?_eq_getElem hp2
        have hb1 := hl _ (List.getElem_mem hp2)
        have hcm := find1_call l[posE l K] r s hb1 hr
        have hat : ((encs envC l).drop (posE l K * 6)).take 6 = envC l[posE l K] := encs_at envC_length hx
        have hle : posE l K * 6 + 6 ≤ l.length * 6 := by omega
        have hne : encs envC l ≠ [] := encs_ne envC_length (by decide) hx
        have heq := ordI_eq (r := l[posE l K].r) (r' := r) hb1.2 hr.2
        rw [hK] at heq
        have hh : hasE l K = decide (kE l[posE l K] = K) := by unfold hasE; rw [hx]
        rw [hh]
        have hd : (ordI l[posE l K].r l[posE l K].s r s == 0) = decide (kE l[posE l K] = K) := by
          by_cases h : kE l[posE l K] = K
          · rw [decide_eq_true h]; exact beq_iff_eq.2 (heq.2 h)
          · rw [decide_eq_false h]; exact beq_eq_false_iff_ne.2 fun e => h (heq.1 e)
        clear heq hb1 hx hh
        generalize ordI l[posE l K].r l[posE l K].s r s = O at *
        generalize decide (kE l[posE l K] = K) = D at *
        generalize l[posE l K] = x at *
        generalize posE l K = m at *
        have FX := And.intro hat (And.intro hle hd)
        repeat' (first | refine WK.seq ?_ | refine WK.reg ?_ | refine IL.nil ?_ | refine WK.skip ?_ | refine WK.block ?_ | refine WK.exit_here ?_ | refine WK.e1 ?_ | refine WK.e2 ?_ | refine WK.drawnS (id := 5) mixed [] [6] [0, 0, 0, 0, 0, 0, 0, 1] [0, 0, 0, 0, 0, 0, 0, 1] (by decide +kernel) ?_ | refine WK.drawnS (id := 8) mixed [] [11] [0, 0, 0, 0, 0, 0, 0, 0, 0, 0, 0, 0, 1, 1, 1, 1] [1, 0, 0, 0, 0, 0, 0, 0, 0, 0, 0, 0, 1, 1, 1, 1] (by decide +kernel) ?_ | refine DW.nil ?_ | (with_reducible refine IL.wr ?_ ?_; focus exact cW) | (with_reducible refine DW.wr ?_ ?_; focus exact cW) | refine IL.sgF ttok ?_ | refine DW.reF ttok ?_ | refine DW.rmF ttok ?_ | refine DW.nn ?_ | refine DW.nb ?_ | refine DW.cSF ttok ent57 [.bor, .bor] true ?_ (hS := by exact hcm) | ((first | ((first | refine DW.ag (fun h => ?_) (fun h => ?_) | refine DW.ap (fun h => ?_) (fun h => ?_)); (fail_if_success (focus (simp only [reduceCtorEq] at h)))) | refine WK.cn (fun h => ?_) (fun h => ?_)); all_goals first | (simp only [reduceCtorEq] at h; done) | (simp only [hsA, hsD, hsE, ne_eq] at h; first | done | (exfalso; omega; done) | skip) | skip))
        all_goals try ((first | refine WK.ret ⟨.inr rfl, ?_⟩ | refine ⟨.inl rfl, ?_⟩ | refine ⟨.inl trivial, ?_⟩); refine Fin.o ?_ ?_ (h1 := by first | rfl | (simp only [go_sem, show Try.f56.results.toList = [.tmp 6, .tmp 7] from rfl, reduceIte] <;> rfl)); rotate_left 1; (focus (first | rfl | skip)); all_goals try with_reducible rfl)
        all_goals skip
      · have hh : hasE l K = false := by unfold hasE; rw [List.getElem?_eq_none (by omega)]
        rw [hh]
        clear hh
        generalize posE l K = m at *
        repeat' (first | refine WK.seq ?_ | refine WK.reg ?_ | refine IL.nil ?_ | refine WK.skip ?_ | refine WK.block ?_ | refine WK.exit_here ?_ | refine WK.e1 ?_ | refine WK.e2 ?_ | refine WK.drawnS (id := 5) mixed [] [6] [0, 0, 0, 0, 0, 0, 0, 1] [0, 0, 0, 0, 0, 0, 0, 1] (by decide +kernel) ?_ | refine WK.drawnS (id := 8) mixed [] [11] [0, 0, 0, 0, 0, 0, 0, 0, 0, 0, 0, 0, 1, 1, 1, 1] [1, 0, 0, 0, 0, 0, 0, 0, 0, 0, 0, 0, 1, 1, 1, 1] (by decide +kernel) ?_ | refine DW.nil ?_ | (with_reducible refine IL.wr ?_ ?_; focus exact cW) | (with_reducible refine DW.wr ?_ ?_; focus exact cW) | refine IL.sg ttok ?_ | refine DW.re ttok ?_ | refine DW.rm ttok ?_ | refine DW.nn ?_ | refine DW.nb ?_ | refine DW.cS ttok ent57 [.bor, .bor] true ?_ (hS := by exact hcm) | ((first | ((first | refine DW.ag (fun h => ?_) (fun h => ?_) | refine DW.ap (fun h => ?_) (fun h => ?_)); (fail_if_success (focus (simp only [reduceCtorEq] at h)))) | refine WK.cn (fun h => ?_) (fun h => ?_)); all_goals first | (simp only [reduceCtorEq] at h; done) | (simp only [hsA, hsD, hsE, ne_eq] at h; first | done | (exfalso; omega; done) | skip) | skip))
        all_goals try ((first | refine WK.ret ⟨.inr rfl, ?_⟩ | refine ⟨.inl rfl, ?_⟩ | refine ⟨.inl trivial, ?_⟩); refine Fin.o ?_ ?_ (h1 := by first | rfl | (simp only [go_sem, show Try.f56.results.toList = [.tmp 6, .tmp 7] from rfl, reduceIte] <;> rfl)); rotate_left 1; (focus (first | rfl | skip)); all_goals try with_reducible rfl)
        all_goals skip
abbrev bufO (l : List EnV) : IV := .obj [.own 36 l.length false (encs envC l)]
theorem findE_call (l : List EnV) (r s : Int) (hs : SrtE l) (hl : ∀ x ∈ l, nb x) (hr : (0 ≤ r ∧ r ≤ 65535) ∧ (0 ≤ s ∧ s ≤ 4294967295)) (hn : l.length ≤ 1000000) :
    SCall Try.prog 35 [bufO l, idI r s] (.tup [.v (.int .i64 (posE l (kN r s))), .v (.bool (hasE l (kN r s)))]) [bufO l, idI r s] := by
  refine SCallG.toS ?_
  refine SCallG.of_body' (G := []) (TT := TT) (fun k => decide (k < 1)) [false, false] ttok Try.func35 rfl (Nat.le_of_ble_eq_true rfl) rfl fun fx hfx hgf => WK.top ?_
  simp only [impl, imp, argT, List.append_nil, List.map_nil, List.map_cons, List.nil_append, List.cons_append, List.length_cons, List.length_nil, show Try.f35.ntmps = 14 from rfl, Nat.zero_add, Nat.reduceAdd]
  repeat' (first | refine WK.seq ?_ | refine WK.reg ?_ | refine IL.nil ?_ | refine WK.drawnS (id := 1) mixed [] [5] [0, 0, 0, 0, 0, 0, 1, 1, 1, 1] [0, 0, 0, 0, 0, 0, 1, 1, 1, 1] (by decide +kernel) ?_ | refine DW.nil ?_ | (with_reducible refine IL.wr ?_ ?_; focus exact cW) | (with_reducible refine DW.wr ?_ ?_; focus exact cW) | refine IL.sg ttok ?_ | refine DW.re ttok ?_ | refine DW.rm ttok ?_ | (refine DW.callSF [none, none, some (57, 0)] hgf (f := 56) (xs := ?_) (A := ?_) (A' := ?_) (rr := ?_) (L' := ?_) (T' := ?_) (bs := ?_) (ks := ?_) (sets := ?_) (pushes := ?_) ttok ent56 [.bor, .bor] true rfl ?_ ?_ ?_ ?_ ?_ ?_ ?_ ?_ ?_ ?_ (fun K hK => ?_) ?_ ?_ ?_; rotate_left 10; (focus exact cG); (focus rfl); (focus rfl); (focus (first | rfl | (simp only [go_sem, reduceIte] <;> rfl))); (focus (exact bsfE_call _ _ _ hs hl hr hn)); (focus rfl); (focus rfl); (focus (first | rfl | simp only [go_sem])); (focus (first | rfl | (simp only [go_sem, reduceIte] <;> rfl))); (focus simp); (focus (simp only [go_sem, reduceIte]; exact cK hK)); (focus (first | exact ⟨_, rfl⟩ | rfl)); (focus (first | exact .inl rfl | exact .inr (LEX.refl _ _) | exact .inr (LE.app _ _).lex | exact .inr (LEX.of (by simp only [go_sem, List.contains_cons, List.contains_nil, Nat.reduceBEq, Bool.or_false, Bool.false_or, Nat.reduceAdd, true_or, false_or, true_and]; first | done | trivial | (and_intros <;> first | exact ⟨_, rfl⟩ | trivial)))))))
  all_goals try ((first | refine WK.ret ⟨.inr rfl, ?_⟩ | refine ⟨.inl rfl, ?_⟩ | refine ⟨.inl trivial, ?_⟩); refine Fin.o ?_ ?_ (h1 := by first | rfl | (simp only [go_sem, show Try.f35.results.toList = [.tmp 4, .tmp 5] from rfl, reduceIte] <;> rfl)); rotate_left 1; (focus (first | rfl | skip)); all_goals try with_reducible rfl)
  all_goals skip
end Go.Proofs.Ytclhjcbnpdlgbaa
/- slices.Insert and slices.Delete at envelopes. -/
namespace Go.Proofs.Ytclhjcbnpdlgbaa
open Go Go.Lift Go.Lib
set_option maxHeartbeats 4000000
set_option maxRecDepth 100000
set_option linter.unusedSimpArgs false
set_option linter.unusedVariables false

theorem eins_shift (g n c i gv m vc : Nat) (cur curv : Array Value) (us vs : List Value) (w : World) (hi : i < n) (hm : 0 < m) (hroom : n + m ≤ c) (hc63 : c ≤ 9223372036854775807) (hne : gv ≠ g)
    (hg : w.heap[g]? = some (.cells cur 36 (0, 0))) (hcur : cur.size = c * 6) (hgv : w.heap[gv]? = some (.cells curv 36 (0, 0)))
    (hus : us.length = (n - i) * 6) (hu : ∀ (j : Nat) (v : Value), us[j]? = some v → cur[i * 6 + j]? = some v) (hvs : vs.length = m * 6) (hv : ∀ (j : Nat) (v : Value), vs[j]? = some v → curv[j]? = some v) (h1c : ∀ v ∈ us, v.oneCell' = true) (h1v : ∀ v ∈ vs, v.oneCell' = true) :
    Calls Try.prog 36 #[.slice (some ⟨g, 0, none⟩) n c, .int .i64 i, .slice (some ⟨gv, 0, none⟩) m vc] w fun e w' =>
      e = .returned (.slice (some ⟨g, 0, none⟩) (n + m) c) ∧ w' = (w.drew.setRow g (spl cur ((i + m) * 6) us)).setRow g (spl (spl cur ((i + m) * 6) us) (i * 6) vs) := by
  have hmixed := mixed
  obtain ⟨i0, hi0, hi1, hi2⟩ : ∃ i0, (Try.prog).info? 36 = some i0 ∧ i0.size = 6 ∧ True := ⟨_, rfl, rfl, trivial⟩
  have u1 : (Try.prog).underlying 22 = some (.slice 36) := by kernel_rfl
  have u2 : (Try.prog).underlying 22 = some (.slice 36) := by kernel_rfl
  have v1 := fun w => run_underlying (w := w) u1
  have v2 := fun w => run_underlying (w := w) u2
  have z1 : ∀ w, (Go.sizeOf 36).run Try.prog w = .ok 6 w := fun w => by simp [sizeOf, typeInfo, hi0, hi1]
  have hz1 : ¬ ((m : Int) = 0) := by omega
  have hz2 : ¬ ((i : Int) = (n : Int)) := by omega
  have hcell : ∀ j, w.cell? ⟨g, j, none⟩ = cur[j]? := fun j => cell_of_row w g j cur _ _ hg
  have hcp1 : ∀ ty dc sc, (Builtin.copy_ #[22, 22] ty #[.slice (some ⟨g, (i + m) * 6, none⟩) (n + m - (i + m)) dc, .slice (some ⟨g, i * 6, none⟩) (n + m - i) sc]).run Try.prog w.drew = .ok (goInt (n - i : Nat)) (w.drew.setRow g (spl cur ((i + m) * 6) us)) := fun ty dc sc =>
    run_copyR w.drew u1 hi0 (g := g) (T := 36) (arr := cur) hg _ _ _ _ _ (n - i) us (by omega) (by rw [hus, hi1]) (fun j v hj => by
      rw [Addr.add_lit]
      exact (hcell _).trans (hu j v hj)) (by rw [hus, hcur]; omega) h1c
  have hsz := spl_size cur ((i + m) * 6) us (by rw [hus, hcur]; omega)
  obtain ⟨W1, hW1⟩ : ∃ W1, W1 = w.drew.setRow g (spl cur ((i + m) * 6) us) := ⟨_, rfl⟩
  have hgv1 : W1.heap[gv]? = some (.cells curv 36 (0, 0)) := by
    rw [hW1, setRow_other _ _ _ _ hne]; exact hgv
  have hcp2 : ∀ ty dc, (Builtin.copy_ #[22, 22] ty #[.slice (some ⟨g, i * 6, none⟩) (n + m - i) dc, .slice (some ⟨gv, 0, none⟩) m vc]).run Try.prog W1 = .ok (goInt (m : Nat)) (W1.setRow g (spl (spl cur ((i + m) * 6) us) (i * 6) vs)) := fun ty dc =>
    run_copyR W1 u1 hi0 (g := g) (T := 36) (arr := spl cur ((i + m) * 6) us) (by rw [hW1]; exact setRow_heap w.drew g cur _ _ _ hg) _ _ _ _ _ m vs (by omega) (by rw [hvs, hi1]) (fun j v hj => by
      rw [Addr.add_lit, Nat.zero_add]
      exact (cell_of_row _ gv j curv _ _ hgv1).trans (hv j v hj)) (by rw [hsz, hvs, hcur]; omega) h1v
  subst hW1
  have hov : ∀ lb cb, (callFunc 59 #[.slice (some ⟨gv, 0, none⟩) m vc, .slice (some ⟨g, (i + m) * 6, none⟩) lb cb]).run Try.prog w = .ok (.value (.bool false)) w := fun lb cb => by
    rw [run_callFunc_extern Try.func59 (by kernel_rfl) (by kernel_rfl) (by kernel_rfl) (e := Extern.SlicesOverlaps.overlaps #[22, 22] #[4]) (by kernel_rfl),
      Lib.run_overlaps_apart w 22 4 36 u2 6 z1 ⟨gv, 0, none⟩ ⟨g, (i + m) * 6, none⟩ m vc lb cb hne 36 36 curv.size cur.size (by simp [World.shape?, hgv]) (by simp [World.shape?, hg]) (by omega) (by simp [World.frozen?, hgv]) (by simp [World.frozen?, hgv])]
    rfl
  have hw1 : IntKind.i64.wrap ((i : Int) + (m : Int)) = (i : Int) + (m : Int) := by rw [IntKind.wrap_i64]; omega
  have hb1 : (0 : Int) ≤ (i : Int) + (m : Int) := by omega
  have hin : i ≤ n := by omega
  have htn : ((i : Int) + (m : Int)).toNat = i + m := by omega
  have hb2 : ¬ (c = i + m) := by omega
  have hb3 : (i : Int) ≤ (n : Int) + (m : Int) := by omega
  have hb4 : ¬ (c = i) := by omega
  clear hus hu hvs hv h1c h1v hcur hsz hcell hgv1 hg hgv
  go_enter Try.func36, Try.ntmps36
  go_wp2_with (simp only [hov])
  go_region_law_o (refine step_copy_runI rfl _ _ 22 22 rfl _ _ (by simp [Act.eval, Act.put]) (by simp [Act.eval, Act.put]) (hcp1 _ _ _) ?_)
  go_wp2_with (at_builtin; refine wpList_copy_runI _ rfl _ _ 22 22 rfl _ _ rfl rfl (hcp2 _ _) ?_)
  go_ret
  exact ⟨rfl, rfl⟩

theorem eins_end (base : Option Addr) (n c gv m vc : Nat) (w w1 : World) (v : Value) (hm : 0 < m) (hnc : n ≤ c) (hc63 : c ≤ 9223372036854775807)
    (hrun : ∀ ty, (Builtin.append_ #[22, 22] ty #[.slice base n c, .slice (some ⟨gv, 0, none⟩) m vc]).run Try.prog w = .ok v w1) :
    Calls Try.prog 36 #[.slice base n c, .int .i64 n, .slice (some ⟨gv, 0, none⟩) m vc] w fun e w' => e = .returned v ∧ w' = w1 := by
  have hmixed := mixed
  have u1 : (Try.prog).underlying 22 = some (.slice 36) := by kernel_rfl
  have u2 : (Try.prog).underlying 22 = some (.slice 36) := by kernel_rfl
  have v1 := fun w => run_underlying (w := w) u1
  have v2 := fun w => run_underlying (w := w) u2
  obtain ⟨i0, hi0, hi1⟩ : ∃ i0, (Try.prog).info? 36 = some i0 ∧ i0.size = 6 := ⟨_, rfl, rfl⟩
  have z1 : ∀ w, (Go.sizeOf 36).run Try.prog w = .ok 6 w := fun w => by simp [sizeOf, typeInfo, hi0, hi1]
  have hz1 : ¬ ((m : Int) = 0) := by omega
  go_enter Try.func36, Try.ntmps36
  cases base with
  | none =>
    go_wp2_with (at_builtin; refine Lib.wpList_append_run _ rfl _ _ _ _ rfl _ _ rfl rfl _ _ (hrun _) ?_)
    all_goals (go_ret; exact ⟨rfl, rfl⟩)
  | some a =>
    obtain ⟨ab, ao, asp⟩ := a
    go_wp2_with (at_builtin; refine Lib.wpList_append_run _ rfl _ _ _ _ rfl _ _ rfl rfl _ _ (hrun _) ?_)
    all_goals (go_ret; exact ⟨rfl, rfl⟩)
theorem eins_grow (g n c i gv m vc g2 c2 : Nat) (w w1 w2 w3 : World) (hi : i < n) (hnc : n ≤ c) (hm : 0 < m) (hroom : c < n + m) (hc63 : n + m ≤ 9223372036854775807) (hc2 : n + m ≤ c2)
    (hrz : ∀ ty, (Builtin.append_ #[22, 3] ty #[.slice (some ⟨g, 0, none⟩) i c, .int .i64 ((n : Int) + m - i)]).run Try.prog w = .ok (.slice (some ⟨g2, 0, none⟩) (n + m) c2) w1)
    (hcpA : ∀ ty dc, (Builtin.copy_ #[22, 22] ty #[.slice (some ⟨g2, i * 6, none⟩) (n + m - i) dc, .slice (some ⟨gv, 0, none⟩) m vc]).run Try.prog w1 = .ok (goInt (m : Nat)) w2)
    (hcpB : ∀ ty dc sc, (Builtin.copy_ #[22, 22] ty #[.slice (some ⟨g2, (i + m) * 6, none⟩) (n + m - (i + m)) dc, .slice (some ⟨g, i * 6, none⟩) (n - i) sc]).run Try.prog w2.drew = .ok (goInt (n - i : Nat)) w3) :
    Calls Try.prog 36 #[.slice (some ⟨g, 0, none⟩) n c, .int .i64 i, .slice (some ⟨gv, 0, none⟩) m vc] w fun e w' =>
      e = .returned (.slice (some ⟨g2, 0, none⟩) (n + m) c2) ∧ w' = w3 := by
  have hmixed := mixed
  have u1 : (Try.prog).underlying 22 = some (.slice 36) := by kernel_rfl
  have u2 : (Try.prog).underlying 22 = some (.slice 36) := by kernel_rfl
  have v1 := fun w => run_underlying (w := w) u1
  have v2 := fun w => run_underlying (w := w) u2
  obtain ⟨i0, hi0, hi1⟩ : ∃ i0, (Try.prog).info? 36 = some i0 ∧ i0.size = 6 := ⟨_, rfl, rfl⟩
  have z1 : ∀ w, (Go.sizeOf 36).run Try.prog w = .ok 6 w := fun w => by simp [sizeOf, typeInfo, hi0, hi1]
  have hz1 : ¬ ((m : Int) = 0) := by omega
  have hz2 : ¬ ((i : Int) = (n : Int)) := by omega
  have hz3 : (c : Int) < (n : Int) + (m : Int) := by omega
  have hw1 : IntKind.i64.wrap ((i : Int) + (m : Int)) = (i : Int) + (m : Int) := by rw [IntKind.wrap_i64]; omega
  have hb1 : (0 : Int) ≤ (i : Int) + (m : Int) := by omega
  have hin : i ≤ n := by omega
  have htn : ((i : Int) + (m : Int)).toNat = i + m := by omega
  have hb3 : (i : Int) ≤ (n : Int) := by omega
  have hGi : ¬ (c2 = i) := by omega
  have hGim : ¬ (c2 = i + m) := by omega
  have hci : ¬ (c = i) := by omega
  go_enter Try.func36, Try.ntmps36
  go_wp2_with (first
    | (at_builtin; refine Lib.wpList_append_run _ rfl _ _ _ _ rfl _ _ rfl rfl _ _ (hrz _) ?_)
    | (at_builtin; refine wpList_copy_runI _ rfl _ _ 22 22 rfl _ _ rfl rfl (hcpA _ _) ?_))
  go_region_law_o (refine step_copy_runI rfl _ _ 22 22 rfl _ _ (by simp [Act.eval, Act.put]) (by simp [Act.eval, Act.put]) (hcpB _ _ _) ?_)
  go_wp2
  go_ret
  exact ⟨rfl, rfl⟩
theorem edel_walk (g n c i j : Nat) (A : Addr) (w w1 w2 : World) (hij : i < j) (hj : j ≤ n) (hnc : n ≤ c) (hc63 : c ≤ 9223372036854775807) (hA : (if c = j then (some ⟨g, 0, none⟩ : Option Addr) else some ⟨g, j * 6, none⟩) = some A)
    (hap : ∀ ty, (Builtin.append_ #[22, 22] ty #[.slice (some ⟨g, 0, none⟩) i c, .slice (some A) (n - j) (c - j)]).run Try.prog w.drew = .ok (.slice (some ⟨g, 0, none⟩) (i + (n - j)) c) w1)
    (hclr : ∀ ty, (Builtin.clear_ #[22] ty #[.slice (some ⟨g, (i + (n - j)) * 6, none⟩) (n - (i + (n - j))) (c - (i + (n - j)))]).run Try.prog w1 = .ok (.tuple #[]) w2) :
    Calls Try.prog 38 #[.slice (some ⟨g, 0, none⟩) n c, .int .i64 i, .int .i64 j] w fun e w' => e = .returned (.slice (some ⟨g, 0, none⟩) (i + (n - j)) c) ∧ w' = w2 := by
  have hmixed := mixed
  have u1 : (Try.prog).underlying 22 = some (.slice 36) := by kernel_rfl
  have v1 := fun w => run_underlying (w := w) u1
  obtain ⟨i0, hi0, hi1⟩ : ∃ i0, (Try.prog).info? 36 = some i0 ∧ i0.size = 6 := ⟨_, rfl, rfl⟩
  have z1 : ∀ w, (Go.sizeOf 36).run Try.prog w = .ok 6 w := fun w => by simp [sizeOf, typeInfo, hi0, hi1]
  have hz1 : ¬ ((i : Int) = (j : Int)) := by omega
  have hic : i ≤ c := by omega
  have hjc : j ≤ c := by omega
  have hci : ¬ (c = i + (n - j)) := by omega
  go_enter Try.func38, Try.ntmps38
  go_wp2_with fail
  go_region_law_o (refine step_append_runI rfl _ _ 22 22 rfl _ _ (by simp [Act.eval, Act.put]) (by simp [Act.eval, Act.put]) (hap _) ?_)
  go_wp2_with (at_builtin; refine wpList_clear_runI _ rfl _ 22 rfl _ rfl (hclr _) ?_)
  go_ret
  exact ⟨rfl, rfl⟩
theorem infoE : ∃ i, (Try.prog).info? 36 = some i ∧ i.size = 6 ∧ i.zero = some (.agg #[.slice none 0 0, .int .u16 0, .int .u32 0, .int .u64 0, .int .i64 0, .slice none 0 0]) ∧ i.bytes = 72 := ⟨_, rfl, rfl, rfl, rfl⟩
theorem eins_call (l : List EnV) (x : EnV) (i : Nat) (hi : i ≤ l.length) (hn : l.length ≤ 1000000) :
    SCall Try.prog 36 [.own 36 l.length false (encs envC l), .v (.int .i64 i), .own 36 1 false (envC x)]
      (.own 36 (l.length + 1) false (encs envC (l.take i ++ ([x] ++ l.drop i)))) [.gone, .v (.int .i64 i), .gone] := by
  obtain ⟨ie, h1, h2, h3, h4⟩ := infoE
  have h := SCall.of_insert (P := Try.prog) (f := 36) (tS := 22) (tV := 22) (tI := 3) (kn := .i64) h1 h2 (by decide) h3 rfl (by kernel_rfl) (by kernel_rfl) (by kernel_rfl)
    eins_shift eins_end eins_grow i l.length 1 false (encs envC l) (envC x) hi (by decide) (by simp only [maxLen]; omega) (by rw [h4]; omega)
  have e : (encs envC l).take (i * 6) ++ envC x ++ (encs envC l).drop (i * 6) = encs envC (l.take i ++ ([x] ++ l.drop i)) := by
    rw [encs_take envC_length, encs_drop envC_length, List.append_assoc, ← encs_append, ← encs_append]; rfl
  rw [e] at h
  exact h
theorem edel_call (l : List EnV) (i : Nat) (hi : i < l.length) (hn : l.length ≤ 1000000) :
    SCall Try.prog 38 [.own 36 l.length false (encs envC l), .v (.int .i64 i), .v (.int .i64 ((i : Int) + 1))]
      (.own 36 (i + (l.length - (i + 1))) false (encs envC (l.take i ++ l.drop (i + 1)))) [.gone, .v (.int .i64 i), .v (.int .i64 ((i : Int) + 1))] := by
  obtain ⟨ie, h1, h2, h3, h4⟩ := infoE
  have h := SCall.of_delete (P := Try.prog) (f := 38) (tS := 22) h1 h2 (by decide) h3 rfl (by decide) (by kernel_rfl)
    edel_walk i (i + 1) l.length false (encs envC l) (by omega) (by omega)
  have e : (encs envC l).take (i * 6) ++ (encs envC l).drop ((i + 1) * 6) = encs envC (l.take i ++ l.drop (i + 1)) := by
    rw [encs_take envC_length, encs_drop envC_length, ← encs_append]
  rw [e, show ((i + 1 : Nat) : Int) = (i : Int) + 1 by omega] at h
  exact h
end Go.Proofs.Ytclhjcbnpdlgbaa
/- package hold: Names, Put, Take. -/
namespace Go.Proofs.Ytclhjcbnpdlgbaa
open Go Go.Lift
set_option maxHeartbeats 4000000
set_option linter.unusedSimpArgs false
set_option linter.unusedVariables false
attribute [local irreducible] WK IL IP IG IW DW

section
variable (d h : List Vc.Ve) (r s c u : Int) (ops : List OpV) (hd : Vc.Vec d) (hh : Vc.Vec h) (hr : 0 ≤ r ∧ r ≤ 65535) (hs : 1 ≤ s ∧ s ≤ 268435456) (ld : d.length ≤ 1000) (lh : h.length ≤ 1000)
include hd hh hr hs ld lh
theorem ready_call : SCall Try.prog 37 [.agg (enT d r s c u ops), .tr h.length (encs Vc.veC h)] (.v (.bool (decide (Vc.getV h r = s - 1) && Vc.covV h d))) [.agg (enT d r s c u ops), .tr h.length (encs Vc.veC h)] := by
  have hcg := Vc.get_call h r hh.s hh.ok.r hr (by omega)
  have hcc := Vc.covers_call h d hh.s hh.ok hd.ok (by omega) (by omega)
  have hw : IntKind.u32.wrap (s - 1) = s - 1 := wrap_u32 (by omega) (by omega)
  by_cases hb : Vc.getV h r = s - 1
  · rw [decide_eq_true hb, Bool.true_and]
    generalize Vc.covV h d = B at *
    generalize Vc.getV h r = g at *
    refine SCall.of_body' (TT := TT) (fun _ => false) [false, false] ttok Try.func37 rfl (Nat.le_of_ble_eq_true rfl) rfl fun fx hfx => WK.top ?_
    simp only [impl, imp, argT, List.append_nil, List.map_nil, List.nil_append, show Try.f37.ntmps = 21 from rfl, Nat.zero_add, Nat.reduceAdd]
    have FX := hw
    repeat' (first | refine WK.seq ?_ | refine WK.reg ?_ | refine IL.nil ?_ | refine WK.drawnS (id := 1) mixed [] [4, 14] [0, 0, 0, 0, 0, 0, 0, 0, 0, 1, 1, 1, 1, 1, 1, 2, 2] [0, 0, 0, 0, 0, 1, 1, 1, 1, 1, 1, 1, 1, 1, 1, 2, 2] (by decide +kernel) ?_ | refine DW.nil ?_ | (with_reducible refine IL.wr ?_ ?_; focus exact cW) | (with_reducible refine DW.wr ?_ ?_; focus exact cW) | refine IL.sgF ttok ?_ | refine DW.reF ttok ?_ | refine DW.rmF ttok ?_ | refine DW.nn ?_ | refine DW.nb ?_ | refine DW.cSF ttok ent61 [.bor, .bor] true ?_ (hS := by exact hcg) | refine DW.cSF ttok ent62 [.bor, .bor] true ?_ (hS := by exact hcc) | (((first | refine DW.ag (fun h => ?_) (fun h => ?_) | refine DW.ap (fun h => ?_) (fun h => ?_)); (fail_if_success (focus (simp only [reduceCtorEq] at h)))); all_goals first | (simp only [reduceCtorEq] at h; done) | (simp only [hsA, hsD, hsE, ne_eq] at h; first | done | (exfalso; omega; done) | skip) | skip))
    all_goals try ((first | refine WK.ret ⟨.inr rfl, ?_⟩ | refine ⟨.inl rfl, ?_⟩ | refine ⟨.inl trivial, ?_⟩); refine Fin.o ?_ ?_ (h1 := by first | rfl | (simp only [go_sem, show Try.f37.results.toList = [.tmp 4] from rfl, reduceIte] <;> rfl)); rotate_left 1; (focus (first | rfl | skip)); all_goals try with_reducible rfl)
    all_goals skip
  · rw [decide_eq_false hb, Bool.false_and]
    have hb2 : (Vc.getV h r == s - 1) = false := by simpa using hb
    generalize Vc.getV h r = g at *
    refine SCall.of_body' (TT := TT) (fun _ => false) [false, false] ttok Try.func37 rfl (Nat.le_of_ble_eq_true rfl) rfl fun fx hfx => WK.top ?_
    simp only [impl, imp, argT, List.append_nil, List.map_nil, List.nil_append, show Try.f37.ntmps = 21 from rfl, Nat.zero_add, Nat.reduceAdd]
    have FX := And.intro hw hb2
    repeat' (first | refine WK.seq ?_ | refine WK.reg ?_ | refine IL.nil ?_ | refine WK.drawnS (id := 1) mixed [] [4, 14] [0, 0, 0, 0, 0, 0, 0, 0, 0, 1, 1, 1, 1, 1, 1, 2, 2] [0, 0, 0, 0, 0, 1, 1, 1, 1, 1, 1, 1, 1, 1, 1, 2, 2] (by decide +kernel) ?_ | refine DW.nil ?_ | (with_reducible refine IL.wr ?_ ?_; focus exact cW) | (with_reducible refine DW.wr ?_ ?_; focus exact cW) | refine IL.sgF ttok ?_ | refine DW.reF ttok ?_ | refine DW.rmF ttok ?_ | refine DW.nn ?_ | refine DW.nb ?_ | refine DW.cSF ttok ent61 [.bor, .bor] true ?_ (hS := by exact hcg) | refine DW.cSF ttok ent62 [.bor, .bor] true ?_ (hS := by exact hcc) | (((first | refine DW.ag (fun h => ?_) (fun h => ?_) | refine DW.ap (fun h => ?_) (fun h => ?_)); (fail_if_success (focus (simp only [reduceCtorEq] at h)))); all_goals first | (simp only [reduceCtorEq] at h; done) | (simp only [hsA, hsD, hsE, ne_eq] at h; first | done | (exfalso; omega; done) | skip) | skip))
    all_goals try ((first | refine WK.ret ⟨.inr rfl, ?_⟩ | refine ⟨.inl rfl, ?_⟩ | refine ⟨.inl trivial, ?_⟩); refine Fin.o ?_ ?_ (h1 := by first | rfl | (simp only [go_sem, show Try.f37.results.toList = [.tmp 4] from rfl, reduceIte] <;> rfl)); rotate_left 1; (focus (first | rfl | skip)); all_goals try with_reducible rfl)
    all_goals skip
theorem refReady_call : SCall Try.prog 13 [.agg (enT d r s c u ops), .tr h.length (encs Vc.veC h)] (.v (.bool (decide (Vc.getV h r = s - 1) && Vc.covV h d))) [.agg (enT d r s c u ops), .tr h.length (encs Vc.veC h)] := by
  have hu := And.intro hr hs
  have hrg := Vc.refGet_call h r hh.s (by omega)
  have hrc := Vc.refCovers_call h d hh.s hh.ok hd.ok (by omega) (by omega)
  have hbd := Vc.getV_bd hh.ok r
  have hw : IntKind.u32.wrap (Vc.getV h r + 1) = Vc.getV h r + 1 := wrap_u32 (by omega) (by omega)
  by_cases hb : Vc.getV h r = s - 1
  · have hb2 : (Vc.getV h r + 1 == s) = true := by rw [hb]; simp
    rw [decide_eq_true hb, Bool.true_and]
    generalize Vc.covV h d = B at *
    generalize Vc.getV h r = g at *
    refine SCall.of_body' (TT := TT) (fun _ => false) [false, false] ttok Try.func13 rfl (Nat.le_of_ble_eq_true rfl) rfl fun fx hfx => WK.top ?_
    simp only [impl, imp, argT, List.append_nil, List.map_nil, List.nil_append, show Try.f13.ntmps = 21 from rfl, Nat.zero_add, Nat.reduceAdd]
    have FX := And.intro hw hb2
    repeat' (first | refine WK.seq ?_ | refine WK.reg ?_ | refine IL.nil ?_ | refine WK.drawnS (id := 1) mixed [] [4, 14] [0, 0, 0, 0, 0, 1, 0, 0, 0, 1, 1, 1, 1, 1, 1, 2, 2] [0, 0, 0, 0, 0, 1, 1, 1, 1, 1, 1, 1, 1, 1, 1, 2, 2] (by decide +kernel) ?_ | refine DW.nil ?_ | (with_reducible refine IL.wr ?_ ?_; focus exact cW) | (with_reducible refine DW.wr ?_ ?_; focus exact cW) | refine IL.sgF ttok ?_ | refine DW.reF ttok ?_ | refine DW.rmF ttok ?_ | refine DW.nn ?_ | refine DW.nb ?_ | refine DW.cSF ttok ent21 [.bor, .bor] true ?_ (hS := by exact hrg) | refine DW.cSF ttok ent40 [.bor, .bor] true ?_ (hS := by exact hrc) | (((first | refine DW.ag (fun h => ?_) (fun h => ?_) | refine DW.ap (fun h => ?_) (fun h => ?_)); (fail_if_success (focus (simp only [reduceCtorEq] at h)))); all_goals first | (simp only [reduceCtorEq] at h; done) | (simp only [hsA, hsD, hsE, ne_eq] at h; first | done | (exfalso; omega; done) | skip) | skip))
    all_goals try ((first | refine WK.ret ⟨.inr rfl, ?_⟩ | refine ⟨.inl rfl, ?_⟩ | refine ⟨.inl trivial, ?_⟩); refine Fin.o ?_ ?_ (h1 := by first | rfl | (simp only [go_sem, show Try.f13.results.toList = [.tmp 4] from rfl, reduceIte] <;> rfl)); rotate_left 1; (focus (first | rfl | skip)); all_goals try with_reducible rfl)
    all_goals skip
  · rw [decide_eq_false hb, Bool.false_and]
    have hb2 : (Vc.getV h r + 1 == s) = false := by
      have : ¬ Vc.getV h r + 1 = s := by omega
      simpa using this
    generalize Vc.getV h r = g at *
    refine SCall.of_body' (TT := TT) (fun _ => false) [false, false] ttok Try.func13 rfl (Nat.le_of_ble_eq_true rfl) rfl fun fx hfx => WK.top ?_
    simp only [impl, imp, argT, List.append_nil, List.map_nil, List.nil_append, show Try.f13.ntmps = 21 from rfl, Nat.zero_add, Nat.reduceAdd]
    have FX := And.intro hw hb2
    repeat' (first | refine WK.seq ?_ | refine WK.reg ?_ | refine IL.nil ?_ | refine WK.drawnS (id := 1) mixed [] [4, 14] [0, 0, 0, 0, 0, 1, 0, 0, 0, 1, 1, 1, 1, 1, 1, 2, 2] [0, 0, 0, 0, 0, 1, 1, 1, 1, 1, 1, 1, 1, 1, 1, 2, 2] (by decide +kernel) ?_ | refine DW.nil ?_ | (with_reducible refine IL.wr ?_ ?_; focus exact cW) | (with_reducible refine DW.wr ?_ ?_; focus exact cW) | refine IL.sgF ttok ?_ | refine DW.reF ttok ?_ | refine DW.rmF ttok ?_ | refine DW.nn ?_ | refine DW.nb ?_ | refine DW.cSF ttok ent21 [.bor, .bor] true ?_ (hS := by exact hrg) | refine DW.cSF ttok ent40 [.bor, .bor] true ?_ (hS := by exact hrc) | (((first | refine DW.ag (fun h => ?_) (fun h => ?_) | refine DW.ap (fun h => ?_) (fun h => ?_)); (fail_if_success (focus (simp only [reduceCtorEq] at h)))); all_goals first | (simp only [reduceCtorEq] at h; done) | (simp only [hsA, hsD, hsE, ne_eq] at h; first | done | (exfalso; omega; done) | skip) | skip))
    all_goals try ((first | refine WK.ret ⟨.inr rfl, ?_⟩ | refine ⟨.inl rfl, ?_⟩ | refine ⟨.inl trivial, ?_⟩); refine Fin.o ?_ ?_ (h1 := by first | rfl | (simp only [go_sem, show Try.f13.results.toList = [.tmp 4] from rfl, reduceIte] <;> rfl)); rotate_left 1; (focus (first | rfl | skip)); all_goals try with_reducible rfl)
    all_goals skip
end
theorem envC_eq (e : EnV) : envC e = enT e.d e.r e.s e.c e.u e.ops := rfl
def nmE (e : EnV) : Vc.Ve := (e.r, e.s)
theorem names_call (l : List EnV) (hn : l.length ≤ 1000000) : SCall Try.prog 16 [bufO l] (.own 57 l.length true (encs Vc.veC (l.map nmE))) [bufO l] := by
  refine SCall.of_body' (TT := TT) (fun k => decide (k < 1)) [false] ttok Try.func16 rfl (Nat.le_of_ble_eq_true rfl) rfl fun fx hfx => WK.top ?_
  simp only [impl, imp, argT, List.append_nil, List.map_nil, List.map_cons, List.nil_append, List.cons_append, List.length_cons, List.length_nil, show Try.f16.ntmps = 23 from rfl, Nat.zero_add, Nat.reduceAdd]
  repeat' (first | refine WK.seq ?_ | refine WK.reg ?_ | refine IL.nil ?_ | refine WK.skip ?_ | refine WK.block ?_ | refine WK.exit_here ?_ | refine WK.e1 ?_ | refine WK.e2 ?_ | (with_reducible refine IL.wr ?_ ?_; focus exact cW) | refine IL.sg ttok ?_ | refine IL.cS ttok ent17 [.bor] true ?_ (hS := by exact txId_call _ _ _ _ _) | (refine WK.cn (fun h => ?_) (fun h => ?_); all_goals first | (simp only [reduceCtorEq] at h; done) | (simp only [hsA, hsD, hsE, ne_eq] at h; first | done | (exfalso; omega; done) | skip) | skip))
  refine WK.forS l.length (fun k => True) (fun k => ⟨23, [(0, .ptr 0 0 0), (3, .sl 2 0 0 ((l.take k).map nmE).length), (9, .sl 1 0 0 l.length), (10, .v (.int .i64 l.length)), (11, .v (.int .i64 k))], [some ⟨false, 0, 1, false, [.sl 1 0 0 l.length], 0, false⟩, some ⟨true, 36, l.length, false, encs envC l, 0, false⟩, some ⟨true, 57, ((l.take k).map nmE).length, true, encs Vc.veC ((l.take k).map nmE), 0, false⟩]⟩) ⟨trivial, ?_⟩ (fun k hk ho => ?_) (fun ho => ?_)
  · (refine Weak.renP 1 [0, 1, 3] hfx (fun k h => of_decide_eq_true h) (fun k hk => by obtain rfl : k = 0 := (by omega); exact ⟨rfl, _, rfl, rfl⟩) rfl ?_ ?_ rfl <;> (simp only [go_sem, reduceIte, exists_eq_left', exists_eq_left, Blk.mk.injEq, List.take_zero, List.map_nil, List.length_nil, encs_nil] <;> (try and_intros) <;> first | rfl | omega))
  · have hx : l[k]? = some l[k] := List.getElem?_eq_getElem hk
    have hle : k * 6 + 6 ≤ l.length * 6 := by omega
    have hat : ((encs envC l).drop (k * 6)).take 6 = envC l[k] := encs_at envC_length hx
    have hne : encs envC l ≠ [] := encs_ne envC_length (by decide) hx
    have htl : ((l.take k).map nmE).length = k := by rw [List.length_map, List.length_take]; omega
    have htk1 : l.take (k + 1) = l.take k ++ [l[k]] := by rw [List.take_add_one, hx]; rfl
    have htk : (l.take (k + 1)).map nmE = (l.take k).map nmE ++ [nmE l[k]] := by rw [htk1, List.map_append]; rfl
    have hln : ((l.take (k + 1)).map nmE).length = ((l.take k).map nmE).length + 1 := by rw [htk]; simp
    have hcs : encs Vc.veC ((l.take k).map nmE) ++ [.v (.int .u16 l[k].r), .v (.int .u32 l[k].s)] = encs Vc.veC ((l.take (k + 1)).map nmE) := by rw [htk, ← encs_snoc]; rfl
    rw [envC_eq] at hat
    clear htk htk1 hx
    generalize l[k] = x at *
    have FX := And.intro hat hle
    repeat' (first | refine WK.seq ?_ | refine WK.reg ?_ | refine IL.nil ?_ | refine WK.skip ?_ | refine WK.block ?_ | refine WK.exit_here ?_ | refine WK.e1 ?_ | refine WK.e2 ?_ | (with_reducible refine IL.wr ?_ ?_; focus exact cW) | refine IL.sgF ttok ?_ | refine IL.cSF ttok ent17 [.bor] true ?_ (hS := by exact txId_call _ _ _ _ _) | (refine WK.cn (fun h => ?_) (fun h => ?_); all_goals first | (simp only [reduceCtorEq] at h; done) | (simp only [hsA, hsD, hsE, ne_eq] at h; first | done | (exfalso; omega; done) | skip) | skip))
    refine ⟨trivial, ?_⟩
    (refine Weak.renP 1 [0, 1, 2] hfx (fun k h => of_decide_eq_true h) (fun k hk => by obtain rfl : k = 0 := (by omega); exact ⟨rfl, _, rfl, rfl⟩) rfl ?_ ?_ rfl <;> (simp only [go_sem, reduceIte, exists_eq_left', exists_eq_left, Blk.mk.injEq, hln, hcs] <;> (try and_intros) <;> first | rfl | omega))
  · rw [List.take_length, List.length_map]
    repeat' (first | refine WK.seq ?_ | refine WK.reg ?_ | refine IL.nil ?_ | refine WK.skip ?_ | refine WK.block ?_ | refine WK.exit_here ?_ | refine WK.e1 ?_ | refine WK.e2 ?_ | (with_reducible refine IL.wr ?_ ?_; focus exact cW) | refine IL.sg ttok ?_ | refine IL.cS ttok ent17 [.bor] true ?_ (hS := by exact txId_call _ _ _ _ _) | (refine WK.cn (fun h => ?_) (fun h => ?_); all_goals first | (simp only [reduceCtorEq] at h; done) | (simp only [hsA, hsD, hsE, ne_eq] at h; first | done | (exfalso; omega; done) | skip) | skip))
    all_goals try ((first | refine WK.ret ⟨.inr rfl, ?_⟩ | refine ⟨.inl rfl, ?_⟩ | refine ⟨.inl trivial, ?_⟩); refine Fin.o ?_ ?_ (h1 := by first | rfl | (simp only [go_sem, show Try.f16.results.toList = [.tmp 2] from rfl, reduceIte] <;> rfl)); rotate_left 1; (focus (first | rfl | skip)); all_goals try with_reducible rfl)
    all_goals skip
theorem put_has (l : List EnV) (e : EnV) (hs : SrtE l) (hl : ∀ x ∈ l, nb x) (he : nb e) (hn : l.length ≤ 100000) (hh : hasE l (kE e) = true) :
    SCall Try.prog 9 [bufO l, .agg (envC e)] (.tup [.v (.bool false), .v (.int .i64 0)]) [bufO l, .agg (envC e)] := by
  have hfi := findE_call l e.r e.s hs hl he (by omega)
  rw [show kN e.r e.s = kE e from rfl, hh] at hfi
  rw [envC_eq]
  generalize posE l (kE e) = p at *
  refine SCall.of_body' (TT := TT) (fun k => decide (k < 1)) [false, false] ttok Try.func9 rfl (Nat.le_of_ble_eq_true rfl) rfl fun fx hfx => WK.top ?_
  simp only [impl, imp, argT, List.append_nil, List.map_nil, List.map_cons, List.nil_append, List.cons_append, List.length_cons, List.length_nil, show Try.f9.ntmps = 36 from rfl, Nat.zero_add, Nat.reduceAdd]
  repeat' (first | refine WK.seq ?_ | refine WK.reg ?_ | refine IL.nil ?_ | refine WK.skip ?_ | refine WK.block ?_ | refine WK.drawnS (id := 6) mixed [] [7, 8, 11] [0, 0, 0, 0, 0, 0, 0, 0, 1, 2, 2, 2] [2, 1, 1, 1, 1, 1, 0, 0, 1, 2, 2, 2] (by decide +kernel) ?_ | refine DW.nil ?_ | (with_reducible refine IL.wr ?_ ?_; focus exact cW) | (with_reducible refine DW.wr ?_ ?_; focus exact cW) | refine IL.sg ttok ?_ | refine DW.re ttok ?_ | refine DW.rm ttok ?_ | refine DW.bk ttok ?_ | refine IL.cS ttok ent17 [.bor] true ?_ (hS := by exact txId_call _ _ _ _ _) | refine IL.cS ttok ent35 [.own, .bor] false ?_ (hS := by exact hfi) | refine DW.cS ttok ent36 [.own, .bor, .own] false ?_ (hS := by exact hin) | (refine WK.cn (fun h => ?_) (fun h => ?_); all_goals first | (simp only [reduceCtorEq] at h; done) | (simp only [hsA, hsD, hsE, ne_eq] at h; first | done | (exfalso; omega; done) | skip) | skip))
  all_goals try ((first | refine WK.ret ⟨.inr rfl, ?_⟩ | refine ⟨.inl rfl, ?_⟩ | refine ⟨.inl trivial, ?_⟩); refine Fin.o ?_ ?_ (h1 := by first | rfl | (simp only [go_sem, show Try.f9.results.toList = [.tmp 4, .tmp 5] from rfl, reduceIte] <;> rfl)); rotate_left 1; (focus (first | rfl | skip)); all_goals try with_reducible rfl)
  all_goals skip
def putE (l : List EnV) (e : EnV) : List EnV := l.take (posE l (kE e)) ++ ([e] ++ l.drop (posE l (kE e)))
theorem putE_len (l : List EnV) (e : EnV) : (putE l e).length = l.length + 1 := by
  have := posE_le l (kE e)
  unfold putE; simp only [List.length_append, List.length_take, List.length_drop, List.length_singleton]; omega
theorem put_ok (l : List EnV) (e : EnV) (hs : SrtE l) (hl : ∀ x ∈ l, nb x) (he : nb e) (hn : l.length ≤ 100000) (hh : hasE l (kE e) = false) (h64 : l.length < 64) :
    SCall Try.prog 9 [bufO l, .agg (envC e)] (.tup [.v (.bool true), .v (.int .i64 0)]) [bufO (putE l e), .agg (envC e)] := by
  have hfi := findE_call l e.r e.s hs hl he (by omega)
  rw [show kN e.r e.s = kE e from rfl, hh] at hfi
  have hp := posE_le l (kE e)
  have hin := eins_call l e (posE l (kE e)) hp (by omega)
  rw [show l.take (posE l (kE e)) ++ ([e] ++ l.drop (posE l (kE e))) = putE l e from rfl] at hin
  unfold bufO
  rw [putE_len]
  generalize encs envC (putE l e) = Z at *
  rw [envC_eq] at hin
  rw [envC_eq]
  generalize posE l (kE e) = p at *
  refine SCall.of_body' (TT := TT) (fun k => decide (k < 1)) [false, false] ttok Try.func9 rfl (Nat.le_of_ble_eq_true rfl) rfl fun fx hfx => WK.top ?_
  simp only [impl, imp, argT, List.append_nil, List.map_nil, List.map_cons, List.nil_append, List.cons_append, List.length_cons, List.length_nil, show Try.f9.ntmps = 36 from rfl, Nat.zero_add, Nat.reduceAdd]
  repeat' (first | refine WK.seq ?_ | refine WK.reg ?_ | refine IL.nil ?_ | refine WK.skip ?_ | refine WK.block ?_ | refine WK.drawnS (id := 6) mixed [3, 4] [7, 8, 11] [0, 0, 0, 0, 0, 0, 0, 0, 1, 2, 2, 2] [2, 1, 1, 1, 1, 1, 0, 0, 1, 2, 2, 2] (by decide +kernel) ?_ | refine DW.nil ?_ | (with_reducible refine IL.wr ?_ ?_; focus exact cW) | (with_reducible refine DW.wr ?_ ?_; focus exact cW) | refine IL.sg ttok ?_ | refine DW.re ttok ?_ | refine DW.rm ttok ?_ | refine DW.bk ttok ?_ | refine IL.cS ttok ent17 [.bor] true ?_ (hS := by exact txId_call _ _ _ _ _) | refine IL.cS ttok ent35 [.own, .bor] false ?_ (hS := by exact hfi) | refine DW.cS ttok ent36 [.own, .bor, .own] false ?_ (hS := by exact hin) | (refine WK.cn (fun h => ?_) (fun h => ?_); all_goals first | (simp only [reduceCtorEq] at h; done) | (simp only [hsA, hsD, hsE, ne_eq] at h; first | done | (exfalso; omega; done) | skip) | skip))
  all_goals try ((first | refine WK.ret ⟨.inr rfl, ?_⟩ | refine ⟨.inl rfl, ?_⟩ | refine ⟨.inl trivial, ?_⟩); refine Fin.o ?_ ?_ (h1 := by first | rfl | (simp only [go_sem, show Try.f9.results.toList = [.tmp 4, .tmp 5] from rfl, reduceIte] <;> rfl)); rotate_left 1; (focus (first | rfl | skip)); all_goals try with_reducible rfl)
  all_goals skip
def rdyE (v : List Vc.Ve) (e : EnV) : Bool := decide (Vc.getV v e.r = e.s - 1) && Vc.covV v e.d
def okE (e : EnV) : Prop := Vc.Vec e.d ∧ (0 ≤ e.r ∧ e.r ≤ 65535) ∧ (1 ≤ e.s ∧ e.s ≤ 268435456) ∧ e.d.length ≤ 1000
theorem take_none (l : List EnV) (v : List Vc.Ve) (hv : Vc.Vec v) (hvl : v.length ≤ 1000) (hl : ∀ x ∈ l, okE x) (hn : l.length ≤ 100000) (hno : ∀ x ∈ l, rdyE v x = false) :
    SCall Try.prog 11 [bufO l, .tr v.length (encs Vc.veC v)] (.tup [.agg (enL .emp 0 0 0 0 .emp), .v (.bool false)]) [bufO l, .tr v.length (encs Vc.veC v)] := by
  refine SCall.of_body' (TT := TT) (fun k => decide (k < 1)) [false, false] ttok Try.func11 rfl (Nat.le_of_ble_eq_true rfl) rfl fun fx hfx => WK.top ?_
  simp only [impl, imp, argT, List.append_nil, List.map_nil, List.map_cons, List.nil_append, List.cons_append, List.length_cons, List.length_nil, show Try.f11.ntmps = 47 from rfl, Nat.zero_add, Nat.reduceAdd]
  repeat' (first | refine WK.seq ?_ | refine WK.reg ?_ | refine IL.nil ?_ | refine WK.skip ?_ | (with_reducible refine IL.wr ?_ ?_; focus exact cW) | refine IL.sg ttok ?_ | refine IL.cS ttok ent37 [.bor, .bor] true ?_ (hS := by exact hrd) | refine IL.cS ttok ent38 [.own, .bor, .bor] false ?_ (hS := by exact hde) | (refine WK.cn (fun h => ?_) (fun h => ?_); all_goals first | (simp only [reduceCtorEq] at h; done) | (simp only [hsA, hsD, hsE, ne_eq] at h; first | done | (exfalso; omega; done) | skip) | skip))
  refine WK.gotoL (α := Nat) 0 (rest := _) rfl (fun x => l.length - x) (fun x => x ≤ l.length) (fun x => ⟨47, [(0, .ptr 0 0 0), (1, .tr v.length (encs Vc.veC v)), (4, .ptr 4 0 0), (5, .v (.bool false)), (6, .v (.int .i64 x))], [some ⟨false, 0, 1, false, [.sl 1 0 0 l.length], 0, false⟩, some ⟨true, 36, l.length, false, encs envC l, 0, false⟩, some ⟨true, 109, 0, false, [], 0, false⟩, some ⟨true, 89, 0, true, [], 0, false⟩, some ⟨false, 36, 1, false, enL (.sl 3 0 0 0) 0 0 0 0 (.sl 2 0 0 0), 0, false⟩]⟩) ?_ ?_
  · intro k hk
    rcases Nat.eq_or_lt_of_le hk with rfl | hk
    · repeat' (first | refine WK.seq ?_ | refine WK.reg ?_ | refine IL.nil ?_ | refine WK.skip ?_ | (with_reducible refine IL.wr ?_ ?_; focus exact cW) | refine IL.sg ttok ?_ | refine IL.cS ttok ent37 [.bor, .bor] true ?_ (hS := by exact hrd) | refine IL.cS ttok ent38 [.own, .bor, .bor] false ?_ (hS := by exact hde) | (refine WK.cn (fun h => ?_) (fun h => ?_); all_goals first | (simp only [reduceCtorEq] at h; done) | (simp only [hsA, hsD, hsE, ne_eq] at h; first | done | (exfalso; omega; done) | skip) | skip))
      all_goals try ((first | refine WK.ret ⟨.inr rfl, ?_⟩ | refine ⟨.inl rfl, ?_⟩ | refine ⟨.inl trivial, ?_⟩); refine Fin.o ?_ ?_ (h1 := by first | rfl | (simp only [go_sem, show Try.f11.results.toList = [.cell 4 36, .tmp 5] from rfl, reduceIte] <;> rfl)); rotate_left 1; (focus (first | rfl | skip)); all_goals try with_reducible rfl)
      all_goals first | rfl | skip
    · have hx : l[k]? = some l[k] := List.getElem?_eq_getElem hk
      have hle : k * 6 + 6 ≤ l.length * 6 := by omega
      have hat : ((encs envC l).drop (k * 6)).take 6 = envC l[k] := encs_at envC_length hx
      have hne : encs envC l ≠ [] := encs_ne envC_length (by decide) hx
      have ho := hl _ (List.getElem_mem hk)
      have hrd := ready_call l[k].d v l[k].r l[k].s l[k].c l[k].u l[k].ops ho.1 hv ho.2.1 ho.2.2.1 ho.2.2.2 hvl
      have hr0 := hno _ (List.getElem_mem hk)
      unfold rdyE at hr0
      rw [hr0] at hrd
      rw [envC_eq] at hat
      clear hr0 ho hx
      generalize l[k] = x at *
      have FX := And.intro hat hle
      repeat' (first | refine WK.seq ?_ | refine WK.reg ?_ | refine IL.nil ?_ | refine WK.skip ?_ | (with_reducible refine IL.wr ?_ ?_; focus exact cW) | refine IL.sgF ttok ?_ | refine IL.cSF ttok ent37 [.bor, .bor] true ?_ (hS := by exact hrd) | refine IL.cSF ttok ent38 [.own, .bor, .bor] false ?_ (hS := by exact hde) | (refine WK.cn (fun h => ?_) (fun h => ?_); all_goals first | (simp only [reduceCtorEq] at h; done) | (simp only [hsA, hsD, hsE, ne_eq] at h; first | done | (exfalso; omega; done) | skip) | skip))
      refine WK.goto ⟨rfl, k + 1, by omega, by omega, ?_⟩
      (refine Weak.cut' rfl rfl ?_; exact cA)
  · intro again
    repeat' (first | refine WK.seq ?_ | refine WK.reg ?_ | refine IL.nil ?_ | refine WK.skip ?_ | (with_reducible refine IL.wr ?_ ?_; focus exact cW) | refine IL.sg ttok ?_ | refine IL.cS ttok ent37 [.bor, .bor] true ?_ (hS := by exact hrd) | refine IL.cS ttok ent38 [.own, .bor, .bor] false ?_ (hS := by exact hde) | (refine WK.cn (fun h => ?_) (fun h => ?_); all_goals first | (simp only [reduceCtorEq] at h; done) | (simp only [hsA, hsD, hsE, ne_eq] at h; first | done | (exfalso; omega; done) | skip) | skip))
    refine WK.label ?_
    refine again _ 0 (Nat.zero_le _) ?_
    (refine Weak.cut' rfl rfl ?_; exact cA)
theorem take_some (l : List EnV) (v : List Vc.Ve) (hv : Vc.Vec v) (hvl : v.length ≤ 1000) (hl : ∀ x ∈ l, okE x) (hn : l.length ≤ 100000) (K : Nat) (e : EnV) (hK : l[K]? = some e) (hre : rdyE v e = true) (hno : ∀ j x, j < K → l[j]? = some x → rdyE v x = false) :
    SCall Try.prog 11 [bufO l, .tr v.length (encs Vc.veC v)] (.tup [.agg (envC e), .v (.bool true)]) [bufO (l.take K ++ l.drop (K + 1)), .tr v.length (encs Vc.veC v)] := by
  have hKl : K < l.length := (List.getElem?_eq_some_iff.1 hK).1
  have hde := edel_call l K hKl (by omega)
  have hdl : (l.take K ++ l.drop (K + 1)).length = K + (l.length - (K + 1)) := by simp only [List.length_append, List.length_take, List.length_drop]; omega
  unfold bufO
  rw [hdl]
  generalize encs envC (l.take K ++ l.drop (K + 1)) = Z at *
  refine SCall.of_body' (TT := TT) (fun k => decide (k < 1)) [false, false] ttok Try.func11 rfl (Nat.le_of_ble_eq_true rfl) rfl fun fx hfx => WK.top ?_
  simp only [impl, imp, argT, List.append_nil, List.map_nil, List.map_cons, List.nil_append, List.cons_append, List.length_cons, List.length_nil, show Try.f11.ntmps = 47 from rfl, Nat.zero_add, Nat.reduceAdd]
  repeat' (first | refine WK.seq ?_ | refine WK.reg ?_ | refine IL.nil ?_ | refine WK.skip ?_ | (with_reducible refine IL.wr ?_ ?_; focus exact cW) | refine IL.sg ttok ?_ | refine IL.cS ttok ent37 [.bor, .bor] true ?_ (hS := by exact hrd) | refine IL.cS ttok ent38 [.own, .bor, .bor] false ?_ (hS := by exact hde) | (refine WK.cn (fun h => ?_) (fun h => ?_); all_goals first | (simp only [reduceCtorEq] at h; done) | (simp only [hsA, hsD, hsE, ne_eq] at h; first | done | (exfalso; omega; done) | skip) | skip))
  refine WK.gotoL (α := Nat) 0 (rest := _) rfl (fun x => l.length - x) (fun x => x ≤ K) (fun x => ⟨47, [(0, .ptr 0 0 0), (1, .tr v.length (encs Vc.veC v)), (4, .ptr 4 0 0), (5, .v (.bool false)), (6, .v (.int .i64 x))], [some ⟨false, 0, 1, false, [.sl 1 0 0 l.length], 0, false⟩, some ⟨true, 36, l.length, false, encs envC l, 0, false⟩, some ⟨true, 109, 0, false, [], 0, false⟩, some ⟨true, 89, 0, true, [], 0, false⟩, some ⟨false, 36, 1, false, enL (.sl 3 0 0 0) 0 0 0 0 (.sl 2 0 0 0), 0, false⟩]⟩) ?_ ?_
  · intro k hk
    have hkl : k < l.length := by omega
    have hx : l[k]? = some l[k] := List.getElem?_eq_getElem hkl
    have hle : k * 6 + 6 ≤ l.length * 6 := by omega
    have hat : ((encs envC l).drop (k * 6)).take 6 = envC l[k] := encs_at envC_length hx
    have hne : encs envC l ≠ [] := encs_ne envC_length (by decide) hx
    have ho := hl _ (List.getElem_mem hkl)
    have hrd := ready_call l[k].d v l[k].r l[k].s l[k].c l[k].u l[k].ops ho.1 hv ho.2.1 ho.2.2.1 ho.2.2.2 hvl
    rw [envC_eq] at hat
    rw [envC_eq]
    rcases Nat.eq_or_lt_of_le hk with rfl | hk
    · obtain rfl : l[k] = e := Option.some.inj (hx.symm.trans hK)
      unfold rdyE at hre
      rw [hre] at hrd
      clear hre ho hx hK hno
      generalize l[k] = x at *
      have FX := And.intro hat hle
      repeat' (first | refine WK.seq ?_ | refine WK.reg ?_ | refine IL.nil ?_ | refine WK.skip ?_ | (with_reducible refine IL.wr ?_ ?_; focus exact cW) | refine IL.sgF ttok ?_ | refine IL.cSF ttok ent37 [.bor, .bor] true ?_ (hS := by exact hrd) | refine IL.cSF ttok ent38 [.own, .bor, .bor] false ?_ (hS := by exact hde) | (refine WK.cn (fun h => ?_) (fun h => ?_); all_goals first | (simp only [reduceCtorEq] at h; done) | (simp only [hsA, hsD, hsE, ne_eq] at h; first | done | (exfalso; omega; done) | skip) | skip))
      all_goals try ((first | refine WK.ret ⟨.inr rfl, ?_⟩ | refine ⟨.inl rfl, ?_⟩ | refine ⟨.inl trivial, ?_⟩); refine Fin.o ?_ ?_ (h1 := by first | rfl | (simp only [go_sem, show Try.f11.results.toList = [.cell 4 36, .tmp 5] from rfl, reduceIte] <;> rfl)); rotate_left 1; (focus (first | rfl | skip)); all_goals try with_reducible rfl)
      all_goals first | rfl | skip
    · have hr0 := hno k _ hk hx
      unfold rdyE at hr0
      rw [hr0] at hrd
      clear hr0 ho hx
      generalize l[k] = x at *
      have FX := And.intro hat hle
      repeat' (first | refine WK.seq ?_ | refine WK.reg ?_ | refine IL.nil ?_ | refine WK.skip ?_ | (with_reducible refine IL.wr ?_ ?_; focus exact cW) | refine IL.sgF ttok ?_ | refine IL.cSF ttok ent37 [.bor, .bor] true ?_ (hS := by exact hrd) | refine IL.cSF ttok ent38 [.own, .bor, .bor] false ?_ (hS := by exact hde) | (refine WK.cn (fun h => ?_) (fun h => ?_); all_goals first | (simp only [reduceCtorEq] at h; done) | (simp only [hsA, hsD, hsE, ne_eq] at h; first | done | (exfalso; omega; done) | skip) | skip))
      refine WK.goto ⟨rfl, k + 1, by omega, by omega, ?_⟩
      (refine Weak.cut' rfl rfl ?_; exact cA)
  · intro again
    repeat' (first | refine WK.seq ?_ | refine WK.reg ?_ | refine IL.nil ?_ | refine WK.skip ?_ | (with_reducible refine IL.wr ?_ ?_; focus exact cW) | refine IL.sg ttok ?_ | refine IL.cS ttok ent37 [.bor, .bor] true ?_ (hS := by exact hrd) | refine IL.cS ttok ent38 [.own, .bor, .bor] false ?_ (hS := by exact hde) | (refine WK.cn (fun h => ?_) (fun h => ?_); all_goals first | (simp only [reduceCtorEq] at h; done) | (simp only [hsA, hsD, hsE, ne_eq] at h; first | done | (exfalso; omega; done) | skip) | skip))
    refine WK.label ?_
    refine again _ 0 (Nat.zero_le _) ?_
    (refine Weak.cut' rfl rfl ?_; exact cA)
end Go.Proofs.Ytclhjcbnpdlgbaa
/- package vector: Join. -/
namespace Go.Proofs.Ytclhjcbnpdlgbaa.Vc
open Go Go.Lift
set_option maxHeartbeats 4000000
set_option linter.unusedSimpArgs false
set_option linter.unusedVariables false
attribute [local irreducible] WK IL IP IG IW DW

theorem srt_idx {l : List Ve} (hs : Srt l) (h0 : ∀ x ∈ l, 0 ≤ x.1) : ∀ (k : Nat) (x : Ve), l[k]? = some x → (k : Int) ≤ x.1
  | 0, x, hx => by have := h0 x (List.mem_of_getElem? hx); omega
  | k + 1, x, hx => by
    have hk : k < l.length := by have := (List.getElem?_eq_some_iff.1 hx).1; omega
    have hy : l[k]? = some l[k] := List.getElem?_eq_getElem hk
    have := srt_idx hs h0 k _ hy
    have := srt_lt hs (Nat.lt_succ_self k) hy hx
    omega
theorem Vec.len {l : List Ve} (h : Vec l) : l.length ≤ 65536 := by
  rcases Nat.eq_zero_or_pos l.length with h0 | h0
  · omega
  · have hx : l[l.length - 1]? = some l[l.length - 1] := List.getElem?_eq_getElem (by omega)
    have h1 := srt_idx h.s (fun x hx => (h.b x hx).1.1) _ _ hx
    have h2 := (h.b _ (List.getElem_mem (show l.length - 1 < l.length by omega))).1.2
    omega
def vrC (w : List Ve) : List IV := [.tr w.length (encs veC w)]
theorem vrC_length (w : List Ve) : (vrC w).length = 1 := rfl
instance : CellsT vrC 1 := ⟨fun _ => rfl, fun _ => rfl⟩
def joinM (v : List Ve) (ws : List (List Ve)) : List Ve := ws.foldl joinV v
theorem joinM_snoc (v : List Ve) (ws : List (List Ve)) (w : List Ve) : joinM v (ws ++ [w]) = joinV (joinM v ws) w := by unfold joinM; rw [List.foldl_append]; rfl
theorem joinM_vec : ∀ {ws : List (List Ve)} {v : List Ve}, Vec v → (∀ w ∈ ws, Vec w) → Vec (joinM v ws)
  | [], v, h, _ => h
  | w :: ws, v, h, hw => joinM_vec (ws := ws) (join_vec h (hw w (by simp))) fun u hu => hw u (by simp [hu])
theorem join_call (v : List Ve) (ws : List (List Ve)) (hv : Vec v) (hws : ∀ w ∈ ws, Vec w) (hn : ws.length ≤ 1000000) :
    SCall Try.prog 45 [.tr v.length (encs veC v), .tr ws.length (encs vrC ws)] (.own 89 (joinM v ws).length true (encs veC (joinM v ws))) [.tr v.length (encs veC v), .tr ws.length (encs vrC ws)] := by
  have hvl := hv.len
  have hcl := clone_any v (by omega)
  refine SCallG.toS ?_
  refine SCallG.of_body' (G := []) (TT := TT) (fun _ => false) [false, false] ttok Try.func45 rfl (Nat.le_of_ble_eq_true rfl) rfl fun fx hfx hgf => WK.top ?_
  simp only [impl, imp, argT, List.append_nil, List.map_nil, List.nil_append, show Try.f45.ntmps = 40 from rfl, Nat.zero_add, Nat.reduceAdd]
  repeat' (first | refine WK.seq ?_ | refine WK.reg ?_ | refine IL.nil ?_ | refine WK.skip ?_ | refine WK.block ?_ | refine WK.exit_here ?_ | refine WK.e1 ?_ | refine WK.e2 ?_ | refine WK.drawnS (id := 8) mixed [] [5] [0, 0, 0, 0, 0, 0, 1] [1, 1, 0, 0, 0, 0, 1] (by decide +kernel) ?_ | refine DW.nil ?_ | (with_reducible refine IL.wr ?_ ?_; focus exact cW) | (with_reducible refine DW.wr ?_ ?_; focus exact cW) | refine IL.sg ttok ?_ | refine DW.re ttok ?_ | refine DW.rm ttok ?_ | refine IL.cS ttok ent15 [.bor, .bor, .bor] true ?_ (hS := by exact hwi) | refine IL.cS ttok ent41 [.bor] true ?_ (hS := by exact hcl) | refine DW.cS ttok ent61 [.bor, .bor] true ?_ (hS := by exact hge) | (refine WK.cn (fun h => ?_) (fun h => ?_); all_goals first | (simp only [reduceCtorEq] at h; done) | (simp only [hsA, hsD, hsE, ne_eq] at h; first | done | (exfalso; omega; done) | skip) | skip))
  refine WK.forS ws.length (fun k => True) (fun k => ⟨40, [(5, .sl 0 0 0 (joinM v (ws.take k)).length), (12, .tr ws.length (encs vrC ws)), (13, .v (.int .i64 ws.length)), (14, .v (.int .i64 k))], [some ⟨true, 89, (joinM v (ws.take k)).length, true, encs veC (joinM v (ws.take k)), 0, false⟩]⟩) ⟨trivial, ?_⟩ (fun k hk ho => ?_) (fun ho => ?_)
  · (refine Weak.renS [1] hfx rfl ?_ ?_ rfl <;> (simp only [go_sem, reduceIte, exists_eq_left', exists_eq_left, Blk.mk.injEq, List.take_zero, joinM, List.foldl_nil] <;> (try and_intros) <;> first | rfl | omega))
  · have hw : ws[k]? = some ws[k] := List.getElem?_eq_getElem hk
    have htk : ws.take (k + 1) = ws.take k ++ [ws[k]] := by rw [List.take_add_one, hw]; rfl
    have ho : Vec (joinM v (ws.take k)) := joinM_vec hv fun w hw => hws w (List.mem_of_mem_take hw)
    have hvw := hws _ (List.getElem_mem hk)
    have hatw : (encs vrC ws)[k * 1 + 0]? = some (.tr ws[k].length (encs veC ws[k])) := encs_get vrC_length hw (by decide)
    rw [Nat.mul_one, Nat.add_zero] at hatw
    have hle : k * 1 + 1 ≤ ws.length * 1 := by omega
    have hne : encs vrC ws ≠ [] := encs_ne vrC_length (by decide) hw
    rw [htk, joinM_snoc]
    clear htk hw
    generalize ws[k] = w at *
    generalize joinM v (ws.take k) = out at *
    have hwl := hvw.len
    have FX := And.intro hatw hle
    repeat' (first | refine WK.seq ?_ | refine WK.reg ?_ | refine IL.nil ?_ | refine WK.skip ?_ | refine WK.block ?_ | refine WK.exit_here ?_ | refine WK.e1 ?_ | refine WK.e2 ?_ | refine WK.drawnS (id := 8) mixed [] [5] [0, 0, 0, 0, 0, 0, 1] [1, 1, 0, 0, 0, 0, 1] (by decide +kernel) ?_ | refine DW.nil ?_ | (with_reducible refine IL.wr ?_ ?_; focus exact cW) | (with_reducible refine DW.wr ?_ ?_; focus exact cW) | refine IL.sgF ttok ?_ | refine DW.reF ttok ?_ | refine DW.rmF ttok ?_ | refine IL.cSF ttok ent15 [.bor, .bor, .bor] true ?_ (hS := by exact hwi) | refine IL.cSF ttok ent41 [.bor] true ?_ (hS := by exact hcl) | refine DW.cSF ttok ent61 [.bor, .bor] true ?_ (hS := by exact hge) | (refine WK.cn (fun h => ?_) (fun h => ?_); all_goals first | (simp only [reduceCtorEq] at h; done) | (simp only [hsA, hsD, hsE, ne_eq] at h; first | done | (exfalso; omega; done) | skip) | skip))
    refine WK.forS w.length (fun j => True) (fun j => ⟨40, [(5, .sl 0 0 0 (joinV out (w.take j)).length), (12, .tr ws.length (encs vrC ws)), (13, .v (.int .i64 ws.length)), (14, .v (.int .i64 k)), (18, .tr w.length (encs veC w)), (19, .v (.int .i64 w.length)), (20, .v (.int .i64 j))], [some ⟨true, 89, (joinV out (w.take j)).length, true, encs veC (joinV out (w.take j)), 0, false⟩]⟩) ⟨trivial, ?_⟩ (fun j hj hj0 => ?_) (fun hj0 => ?_)
    · (refine Weak.renS [0] hfx rfl ?_ ?_ rfl <;> (simp only [go_sem, reduceIte, exists_eq_left', exists_eq_left, Blk.mk.injEq, List.take_zero, joinV, List.foldl_nil] <;> (try and_intros) <;> first | rfl | omega))
    · have hx : w[j]? = some w[j] := List.getElem?_eq_getElem hj
      have htj : w.take (j + 1) = w.take j ++ [w[j]] := by rw [List.take_add_one, hx]; rfl
      have hat : ((encs veC w).drop (j * 2)).take 2 = [.v (.int .u16 w[j].1), .v (.int .u32 w[j].2)] := encs_at veC_length hx
      have hlj : j * 2 + 2 ≤ w.length * 2 := by omega
      have hnw : encs veC w ≠ [] := encs_ne veC_length (by decide) hx
      have hxb := hvw.b _ (List.getElem_mem hj)
      have ho2 : Vec (joinV out (w.take j)) := (joinV_vec ho fun x hx => hvw.b x (List.mem_of_mem_take hx)).1
      rw [htj, joinV_snoc]
      clear htj hx
      generalize w[j] = x at *
      generalize joinV out (w.take j) = o2 at *
      have hol := ho2.len
      have hge := get_call o2 x.1 ho2.s ho2.ok.r hxb.1 (by omega)
      have hwi := with_call o2 x.1 x.2 ho2 hxb.1 (by omega) (by omega)
      unfold addV
      generalize getV o2 x.1 = g at *
      generalize withV o2 x.1 x.2 = o3 at *
      have FX := And.intro hat hlj
      repeat' (first | refine WK.seq ?_ | refine WK.reg ?_ | refine IL.nil ?_ | refine WK.skip ?_ | refine WK.block ?_ | refine WK.exit_here ?_ | refine WK.e1 ?_ | refine WK.e2 ?_ | refine WK.drawnS (id := 8) mixed [] [5] [0, 0, 0, 0, 0, 0, 1] [1, 1, 0, 0, 0, 0, 1] (by decide +kernel) ?_ | refine DW.nil ?_ | (with_reducible refine IL.wr ?_ ?_; focus exact cW) | (with_reducible refine DW.wr ?_ ?_; focus exact cW) | refine IL.sgF ttok ?_ | refine DW.reF ttok ?_ | refine DW.rmF ttok ?_ | refine IL.cSF ttok ent15 [.bor, .bor, .bor] true ?_ (hS := by exact hwi) | refine IL.cSF ttok ent41 [.bor] true ?_ (hS := by exact hcl) | refine DW.cSF ttok ent61 [.bor, .bor] true ?_ (hS := by exact hge) | (refine WK.cn (fun h => ?_) (fun h => ?_); all_goals first | (simp only [reduceCtorEq] at h; done) | (simp only [hsA, hsD, hsE, ne_eq] at h; first | done | (exfalso; omega; done) | skip) | skip))
      · rw [if_pos h]
        refine ⟨trivial, ?_⟩
        (refine Weak.renS [2] hfx rfl ?_ ?_ rfl <;> (simp only [go_sem, reduceIte, exists_eq_left', exists_eq_left, Blk.mk.injEq] <;> (try and_intros) <;> first | rfl | omega))
      · rw [if_neg (by omega)]
        refine ⟨trivial, ?_⟩
        (refine Weak.renS [0] hfx rfl ?_ ?_ rfl <;> (simp only [go_sem, reduceIte, exists_eq_left', exists_eq_left, Blk.mk.injEq] <;> (try and_intros) <;> first | rfl | omega))
    · rw [List.take_length]
      repeat' (first | refine WK.seq ?_ | refine WK.reg ?_ | refine IL.nil ?_ | refine WK.skip ?_ | refine WK.block ?_ | refine WK.exit_here ?_ | refine WK.e1 ?_ | refine WK.e2 ?_ | refine WK.drawnS (id := 8) mixed [] [5] [0, 0, 0, 0, 0, 0, 1] [1, 1, 0, 0, 0, 0, 1] (by decide +kernel) ?_ | refine DW.nil ?_ | (with_reducible refine IL.wr ?_ ?_; focus exact cW) | (with_reducible refine DW.wr ?_ ?_; focus exact cW) | refine IL.sg ttok ?_ | refine DW.re ttok ?_ | refine DW.rm ttok ?_ | refine IL.cS ttok ent15 [.bor, .bor, .bor] true ?_ (hS := by exact hwi) | refine IL.cS ttok ent41 [.bor] true ?_ (hS := by exact hcl) | refine DW.cS ttok ent61 [.bor, .bor] true ?_ (hS := by exact hge) | (refine WK.cn (fun h => ?_) (fun h => ?_); all_goals first | (simp only [reduceCtorEq] at h; done) | (simp only [hsA, hsD, hsE, ne_eq] at h; first | done | (exfalso; omega; done) | skip) | skip))
      refine ⟨trivial, ?_⟩
      (refine Weak.renS [0] hfx rfl ?_ ?_ rfl <;> (simp only [go_sem, reduceIte, exists_eq_left', exists_eq_left, Blk.mk.injEq] <;> (try and_intros) <;> first | rfl | omega))
  · rw [List.take_length]
    repeat' (first | refine WK.seq ?_ | refine WK.reg ?_ | refine IL.nil ?_ | refine WK.skip ?_ | refine WK.block ?_ | refine WK.exit_here ?_ | refine WK.e1 ?_ | refine WK.e2 ?_ | refine WK.drawnS (id := 8) mixed [] [5] [0, 0, 0, 0, 0, 0, 1] [1, 1, 0, 0, 0, 0, 1] (by decide +kernel) ?_ | refine DW.nil ?_ | (with_reducible refine IL.wr ?_ ?_; focus exact cW) | (with_reducible refine DW.wr ?_ ?_; focus exact cW) | refine IL.sg ttok ?_ | refine DW.re ttok ?_ | refine DW.rm ttok ?_ | refine IL.cS ttok ent15 [.bor, .bor, .bor] true ?_ (hS := by exact hwi) | refine IL.cS ttok ent41 [.bor] true ?_ (hS := by exact hcl) | refine DW.cS ttok ent61 [.bor, .bor] true ?_ (hS := by exact hge) | (refine WK.cn (fun h => ?_) (fun h => ?_); all_goals first | (simp only [reduceCtorEq] at h; done) | (simp only [hsA, hsD, hsE, ne_eq] at h; first | done | (exfalso; omega; done) | skip) | skip))
    all_goals try ((first | refine WK.ret ⟨.inr rfl, ?_⟩ | refine ⟨.inl rfl, ?_⟩ | refine ⟨.inl trivial, ?_⟩); refine Fin.o ?_ ?_ (h1 := by first | rfl | (simp only [go_sem, show Try.f45.results.toList = [.tmp 4] from rfl, reduceIte] <;> rfl)); rotate_left 1; (focus (first | rfl | skip)); all_goals try with_reducible rfl)
    all_goals skip
end Go.Proofs.Ytclhjcbnpdlgbaa.Vc
/- package hold: Wants. -/
namespace Go.Proofs.Ytclhjcbnpdlgbaa
open Go Go.Lift
set_option maxHeartbeats 4000000
set_option linter.unusedSimpArgs false
set_option linter.unusedVariables false
attribute [local irreducible] WK IL IP IG IW DW

def needV (a : List Vc.Ve) (e : EnV) : List Vc.Ve := Vc.joinM a [e.d, Vc.withV [] e.r (e.s - 1)]
def wantV (l : List EnV) : List Vc.Ve := l.foldl needV []
theorem wantV_snoc (l : List EnV) (e : EnV) : wantV (l ++ [e]) = needV (wantV l) e := by unfold wantV; rw [List.foldl_append]; rfl
theorem vec_nil : Vc.Vec [] := ⟨List.Pairwise.nil, by simp⟩
theorem needV_vec {a : List Vc.Ve} {e : EnV} (ha : Vc.Vec a) (he : okE e) : Vc.Vec (needV a e) := by
  refine Vc.joinM_vec ha fun w hw => ?_
  simp only [List.mem_cons, List.not_mem_nil, or_false] at hw
  rcases hw with rfl | rfl
  · exact he.1
  · exact Vc.withV_vec vec_nil he.2.1 (by have := he.2.2.1; omega)
theorem wantV_vec : ∀ (l : List EnV), (∀ x ∈ l, okE x) → Vc.Vec (wantV l) := by
  have key : ∀ (l : List EnV) (a : List Vc.Ve), Vc.Vec a → (∀ x ∈ l, okE x) → Vc.Vec (l.foldl needV a) := by
    intro l
    induction l with
    | nil => intro a ha _; exact ha
    | cons e l ih => intro a ha hl; exact ih _ (needV_vec ha (hl e (by simp))) fun x hx => hl x (by simp [hx])
  exact fun l hl => key l [] vec_nil hl
theorem wants_call (l : List EnV) (v : List Vc.Ve) (hv : Vc.Vec v) (hvl : v.length ≤ 1000) (hl : ∀ x ∈ l, okE x) (hn : l.length ≤ 100000) :
    SCall Try.prog 20 [bufO l, .tr v.length (encs Vc.veC v)] (.own 65 (Vc.lackV v (wantV l)).length true (encs Vc.gpC (Vc.lackV v (wantV l)))) [bufO l, .tr v.length (encs Vc.veC v)] := by
  refine SCall.of_body' (TT := TT) (fun k => decide (k < 1)) [false, false] ttok Try.func20 rfl (Nat.le_of_ble_eq_true rfl) rfl fun fx hfx => WK.top ?_
  simp only [impl, imp, argT, List.append_nil, List.map_nil, List.map_cons, List.nil_append, List.cons_append, List.length_cons, List.length_nil, show Try.f20.ntmps = 34 from rfl, Nat.zero_add, Nat.reduceAdd]
  repeat' (first | refine WK.seq ?_ | refine WK.reg ?_ | refine IL.nil ?_ | refine WK.skip ?_ | refine WK.block ?_ | refine WK.exit_here ?_ | refine WK.e1 ?_ | refine WK.e2 ?_ | refine WK.drawnS (id := 5) mixed [] [10, 12] [0, 0, 0, 0, 0, 0, 0, 0, 0, 0, 0, 1, 1, 2] [1, 1, 1, 0, 0, 0, 0, 0, 0, 0, 0, 1, 1, 2] (by decide +kernel) ?_ | refine DW.nil ?_ | (with_reducible refine IL.wr ?_ ?_; focus exact cW) | (with_reducible refine DW.wr ?_ ?_; focus exact cW) | refine IL.sg ttok ?_ | refine DW.re ttok ?_ | refine DW.rm ttok ?_ | (refine DW.bst (T' := ?_) ttok rfl ?_ (fun K hK => ?_) ?_ ?_; rotate_left 1; (focus exact cG); (focus (simp only [go_sem, reduceIte]; exact cK hK)); (focus (first | exact ⟨_, rfl⟩ | rfl))) | refine DW.cS ttok ent15 [.bor, .bor, .bor] false ?_ (hS := by exact hwi) | refine DW.cS ttok ent45 [.bor, .bor] false ?_ (hS := by exact hjo) | refine IL.cS ttok ent46 [.bor, .bor] true ?_ (hS := by exact hla) | (refine WK.cn (fun h => ?_) (fun h => ?_); all_goals first | (simp only [reduceCtorEq] at h; done) | (simp only [hsA, hsD, hsE, ne_eq] at h; first | done | (exfalso; omega; done) | skip) | skip))
  refine WK.freeze (σ' := ?_) ttok 3 rfl rfl rfl ?_ ?_; rotate_left 1
  · simp only [go_sem, List.set_cons_zero, List.set_cons_succ]; rfl
  refine WK.forS l.length (fun k => True) (fun k => ⟨34, [(0, .ptr 0 0 0), (1, .tr v.length (encs Vc.veC v)), (5, .tr (wantV (l.take k)).length (encs Vc.veC (wantV (l.take k)))), (11, .sl 1 0 0 l.length), (12, .v (.int .i64 l.length)), (13, .v (.int .i64 k))], [some ⟨false, 0, 1, false, [.sl 1 0 0 l.length], 0, false⟩, some ⟨true, 36, l.length, false, encs envC l, 0, false⟩]⟩) ⟨trivial, ?_⟩ (fun k hk ho => ?_) (fun ho => ?_)
  · rw [List.take_zero, show wantV [] = [] from rfl]
    (refine Weak.renP 1 [0, 1] hfx (fun k h => of_decide_eq_true h) (fun k hk => by obtain rfl : k = 0 := (by omega); exact ⟨rfl, _, rfl, rfl⟩) rfl ?_ ?_ rfl <;> (simp only [go_sem, reduceIte, exists_eq_left', exists_eq_left, Blk.mk.injEq] <;> (try and_intros) <;> first | rfl | omega))
  · have hx : l[k]? = some l[k] := List.getElem?_eq_getElem hk
    have hle : k * 6 + 6 ≤ l.length * 6 := by omega
    have hat : ((encs envC l).drop (k * 6)).take 6 = envC l[k] := encs_at envC_length hx
    have hne : encs envC l ≠ [] := encs_ne envC_length (by decide) hx
    have htk : l.take (k + 1) = l.take k ++ [l[k]] := by rw [List.take_add_one, hx]; rfl
    have hok := hl _ (List.getElem_mem hk)
    have hwv := wantV_vec (l.take k) fun x hx => hl x (List.mem_of_mem_take hx)
    rw [htk, wantV_snoc]
    unfold needV
    rw [envC_eq] at hat
    clear htk hx
    generalize l[k] = e at *
    generalize wantV (l.take k) = a at *
    have hs1 := hok.2.2.1
    have hw1 : IntKind.u32.wrap (e.s - 1) = e.s - 1 := wrap_u32 (by omega) (by omega)
    have hwi := SCall.frz (Vc.with_call [] e.r (e.s - 1) vec_nil hok.2.1 (by omega) (by simp)) rfl
    have hwv2 := Vc.withV_vec vec_nil hok.2.1 (q := e.s - 1) (by omega)
    simp only [frzR] at hwi
    generalize Vc.withV [] e.r (e.s - 1) = y at *
    have hjo := SCall.frz (Vc.join_call a [e.d, y] hwv (fun w hw => by
      simp only [List.mem_cons, List.not_mem_nil, or_false] at hw
      rcases hw with rfl | rfl
      · exact hok.1
      · exact hwv2) (by simp)) rfl
    simp only [frzR] at hjo
    generalize Vc.joinM a [e.d, y] = z at *
    have FX := And.intro hat (And.intro hle hw1)
    repeat' (first | refine WK.seq ?_ | refine WK.reg ?_ | refine IL.nil ?_ | refine WK.skip ?_ | refine WK.block ?_ | refine WK.exit_here ?_ | refine WK.e1 ?_ | refine WK.e2 ?_ | refine WK.drawnS (id := 5) mixed [] [10, 12] [0, 0, 0, 0, 0, 0, 0, 0, 0, 0, 0, 1, 1, 2] [1, 1, 1, 0, 0, 0, 0, 0, 0, 0, 0, 1, 1, 2] (by decide +kernel) ?_ | refine DW.nil ?_ | (with_reducible refine IL.wr ?_ ?_; focus exact cW) | (with_reducible refine DW.wr ?_ ?_; focus exact cW) | refine IL.sgF ttok ?_ | refine DW.reF ttok ?_ | refine DW.rmF ttok ?_ | (refine DW.bst (T' := ?_) ttok rfl ?_ (fun K hK => ?_) ?_ ?_; rotate_left 1; (focus exact cG); (focus (simp only [go_sem, reduceIte, hat, hle, hw1]; exact cK hK)); (focus (first | exact ⟨_, rfl⟩ | rfl))) | refine DW.cSF ttok ent15 [.bor, .bor, .bor] false ?_ (hS := by exact hwi) | refine DW.cSF ttok ent45 [.bor, .bor] false ?_ (hS := by exact hjo) | refine IL.cSF ttok ent46 [.bor, .bor] true ?_ (hS := by exact hla) | (refine WK.cn (fun h => ?_) (fun h => ?_); all_goals first | (simp only [reduceCtorEq] at h; done) | (simp only [hsA, hsD, hsE, ne_eq] at h; first | done | (exfalso; omega; done) | skip) | skip))
    refine ⟨trivial, ?_⟩
    (refine Weak.renP 1 [0, 1] hfx (fun k h => of_decide_eq_true h) (fun k hk => by obtain rfl : k = 0 := (by omega); exact ⟨rfl, _, rfl, rfl⟩) rfl ?_ ?_ rfl <;> (simp only [go_sem, reduceIte, exists_eq_left', exists_eq_left, Blk.mk.injEq] <;> (try and_intros) <;> first | rfl | omega))
  · rw [List.take_length]
    have hwv := wantV_vec l hl
    have hla := Vc.lacks_call v (wantV l) hv.s hv.ok hwv.ok (by omega) (by have := hwv.len; omega)
    generalize wantV l = w at *
    generalize Vc.lackV v w = y at *
    repeat' (first | refine WK.seq ?_ | refine WK.reg ?_ | refine IL.nil ?_ | refine WK.skip ?_ | refine WK.block ?_ | refine WK.exit_here ?_ | refine WK.e1 ?_ | refine WK.e2 ?_ | refine WK.drawnS (id := 5) mixed [] [10, 12] [0, 0, 0, 0, 0, 0, 0, 0, 0, 0, 0, 1, 1, 2] [1, 1, 1, 0, 0, 0, 0, 0, 0, 0, 0, 1, 1, 2] (by decide +kernel) ?_ | refine DW.nil ?_ | (with_reducible refine IL.wr ?_ ?_; focus exact cW) | (with_reducible refine DW.wr ?_ ?_; focus exact cW) | refine IL.sg ttok ?_ | refine DW.re ttok ?_ | refine DW.rm ttok ?_ | (refine DW.bst (T' := ?_) ttok rfl ?_ (fun K hK => ?_) ?_ ?_; rotate_left 1; (focus exact cG); (focus (simp only [go_sem, reduceIte]; exact cK hK)); (focus (first | exact ⟨_, rfl⟩ | rfl))) | refine DW.cS ttok ent15 [.bor, .bor, .bor] false ?_ (hS := by exact hwi) | refine DW.cS ttok ent45 [.bor, .bor] false ?_ (hS := by exact hjo) | refine IL.cS ttok ent46 [.bor, .bor] true ?_ (hS := by exact hla) | (refine WK.cn (fun h => ?_) (fun h => ?_); all_goals first | (simp only [reduceCtorEq] at h; done) | (simp only [hsA, hsD, hsE, ne_eq] at h; first | done | (exfalso; omega; done) | skip) | skip))
    all_goals try ((first | refine WK.ret ⟨.inr rfl, ?_⟩ | refine ⟨.inl rfl, ?_⟩ | refine ⟨.inl trivial, ?_⟩); refine Fin.o ?_ ?_ (h1 := by first | rfl | (simp only [go_sem, show Try.f20.results.toList = [.tmp 4] from rfl, reduceIte] <;> rfl)); rotate_left 1; (focus (first | rfl | skip)); all_goals try with_reducible rfl)
    all_goals skip
end Go.Proofs.Ytclhjcbnpdlgbaa
/- the document's example of a buffer; the first of a name. -/
namespace Go.Proofs.Ytclhjcbnpdlgbaa
open Go Go.Lift
set_option maxHeartbeats 4000000
set_option linter.unusedSimpArgs false
set_option linter.unusedVariables false
attribute [local irreducible] WK IL IP IG IW DW

def plO : OpV := ⟨1, 0, 0, 1, [97], [], 0⟩
def plE (r s : Int) : EnV := ⟨[], r, s, 1, 0, [plO]⟩
abbrev plJ (r s : Int) : IV := .agg (enL (.tr 0 []) r s 1 0 (.tr 1 [.v (.int .i64 1), .v (.int .u16 0), .v (.int .u32 0), .v (.int .u32 1), .v (.string ⟨[97].toArray⟩), .emp, .v (.int .u32 0)]))
theorem plE_call (r s : Int) : SCall Try.prog 31 [.v (.int .u16 r), .v (.int .u32 s)] (.ago (enL .emp r s 1 0 (.own 109 1 false [.v (.int .i64 1), .v (.int .u16 0), .v (.int .u32 0), .v (.int .u32 1), .v (.string ⟨[97].toArray⟩), .emp, .v (.int .u32 0)]))) [.v (.int .u16 r), .v (.int .u32 s)] := by
  refine SCall.of_body' (TT := TT) (fun _ => false) [false, false] ttok Try.func31 rfl (Nat.le_of_ble_eq_true rfl) rfl fun fx hfx => WK.top ?_
  simp only [impl, imp, argT, List.append_nil, List.map_nil, List.nil_append, show Try.f31.ntmps = 11 from rfl, Nat.zero_add, Nat.reduceAdd]
  repeat' (first | refine WK.seq ?_ | refine WK.reg ?_ | refine IL.nil ?_ | (with_reducible refine IL.wr ?_ ?_; focus exact cW) | refine IL.sg ttok ?_)
  all_goals try ((first | refine WK.ret ⟨.inr rfl, ?_⟩ | refine ⟨.inl rfl, ?_⟩ | refine ⟨.inl trivial, ?_⟩); refine Fin.o ?_ ?_ (h1 := by first | rfl | (simp only [go_sem, show Try.f31.results.toList = [.cell 4 36] from rfl, reduceIte] <;> rfl)); rotate_left 1; (focus (first | rfl | skip)); all_goals try with_reducible rfl)
  all_goals first | rfl | skip
theorem pl_ok (r s : Int) (hr : 0 ≤ r ∧ r ≤ 65535) (hs : 1 ≤ s ∧ s ≤ 268435456) : okE (plE r s) := ⟨vec_nil, hr, hs, by simp [plE]⟩
theorem anchor11 : SCall Try.prog 6 [] (.v (.bool true)) [] := by
  have hp1 := SCall.frz (plE_call 1 2) rfl
  have hp2 := SCall.frz (plE_call 2 1) rfl
  simp only [frzR, frzRl] at hp1 hp2
  have n1 : nb (plE 1 2) := by unfold nb plE; decide
  have n2 : nb (plE 2 1) := by unfold nb plE; decide
  have k1 : kE (plE 1 2) = 4294967298 := rfl
  have k2 : kE (plE 2 1) = 8589934593 := rfl
  have e1 : putE [] (plE 1 2) = [plE 1 2] := rfl
  have q2 : posE [plE 1 2] (kE (plE 2 1)) = 1 := by unfold posE; rw [List.countP_cons, List.countP_nil, k1, k2]; rfl
  have e2 : putE [plE 1 2] (plE 2 1) = [plE 1 2, plE 2 1] := by unfold putE; rw [q2]; rfl
  have s1 : SrtE [plE 1 2] := List.pairwise_singleton _ _
  have hput1 := put_ok [] (plE 1 2) List.Pairwise.nil (by simp) n1 (by simp) rfl (by simp)
  have hput2 := put_ok [plE 1 2] (plE 2 1) s1 (fun x hx => by rw [List.mem_singleton.1 hx]; exact n1) n2 (by simp) (by unfold hasE; rw [q2]; rfl) (by simp)
  rw [e1] at hput1
  rw [e2] at hput2
  have hok : ∀ x ∈ [plE 1 2, plE 2 1], okE x := fun x hx => by
    simp only [List.mem_cons, List.not_mem_nil, or_false] at hx
    rcases hx with rfl | rfl
    · exact pl_ok 1 2 (by decide) (by decide)
    · exact pl_ok 2 1 (by decide) (by decide)
  have hwa := wants_call [plE 1 2, plE 2 1] [] vec_nil (by simp) hok (by simp)
  have hlv : Vc.lackV [] (wantV [plE 1 2, plE 2 1]) = [(1, 1, 1)] := by decide
  rw [hlv] at hwa
  have hta := take_some [plE 1 2, plE 2 1] [] vec_nil (by simp) hok (by simp) 1 (plE 2 1) rfl (by decide) (fun j x hj hx => by
    obtain rfl : j = 0 := by omega
    simp only [List.getElem?_cons_zero, Option.some.injEq] at hx
    subst hx; decide)
  have hput1 := SCall.weakAE [bufO [], plJ 1 2] hput1
  have hput2 := SCall.weakAE [bufO [plE 1 2], plJ 2 1] hput2
  generalize [plE 1 2, plE 2 1].take 1 ++ [plE 1 2, plE 2 1].drop (1 + 1) = W at *
  simp only [List.length_cons, List.length_nil, encs_cons, encs_nil, Nat.zero_add, List.append_nil, Vc.gpC, List.cons_append, List.nil_append] at hwa
  rw [envC_eq] at hta
  refine SCall.of_body' (TT := TT) (fun _ => false) [] ttok Try.func6 rfl (Nat.le_of_ble_eq_true rfl) rfl fun fx hfx => WK.top ?_
  simp only [impl, imp, argT, List.append_nil, List.map_nil, List.nil_append, show Try.f6.ntmps = 33 from rfl, Nat.zero_add, Nat.reduceAdd]
  repeat' (first | refine WK.seq ?_ | refine WK.reg ?_ | refine IL.nil ?_ | (with_reducible refine IL.wr ?_ ?_; focus exact cW) | refine IL.sg ttok ?_ | refine IL.nn ?_ | refine IL.cS ttok ent9 [.own, .bor] false ?_ (hS := by first | exact hput1 | exact hput2) | refine IL.cS ttok ent11 [.own, .bor] false ?_ (hS := by exact hta) | refine IL.cS ttok ent20 [.own, .bor] false ?_ (hS := by exact hwa) | refine IL.cS ttok ent31 [.bor, .bor] false ?_ (hS := by first | exact hp1 | exact hp2) | (((first | refine IL.ag (fun h => ?_) (fun h => ?_) | refine IL.ap (fun h => ?_) (fun h => ?_)); (fail_if_success (focus (simp only [reduceCtorEq] at h)))); all_goals first | (simp only [reduceCtorEq] at h; done) | (simp only [hsA, hsD, hsE, ne_eq] at h; first | done | (exfalso; omega; done) | skip) | skip))
  all_goals try ((first | refine WK.ret ⟨.inr rfl, ?_⟩ | refine ⟨.inl rfl, ?_⟩ | refine ⟨.inl trivial, ?_⟩); refine Fin.o ?_ ?_ (h1 := by first | rfl | (simp only [go_sem, show Try.f6.results.toList = [.tmp 0] from rfl, reduceIte] <;> rfl)); rotate_left 1; (focus (first | rfl | skip)); all_goals try with_reducible rfl)
  all_goals exact absurd rfl h
theorem sameE_no (x e : EnV) (hd : ¬ x.d = e.d) (hx : x.d.length ≤ 100000) : SCall Try.prog 27 [.agg (envC x), .agg (envC e)] (.v (.bool false)) [.agg (envC x), .agg (envC e)] := by
  have hsv := sameV_call x.d e.d hx
  rw [decide_eq_false hd] at hsv
  rw [envC_eq, envC_eq]
  refine SCall.of_body' (TT := TT) (fun _ => false) [false, false] ttok Try.func27 rfl (Nat.le_of_ble_eq_true rfl) rfl fun fx hfx => WK.top ?_
  simp only [impl, imp, argT, List.append_nil, List.map_nil, List.nil_append, show Try.f27.ntmps = 18 from rfl, Nat.zero_add, Nat.reduceAdd]
  repeat' (first | refine WK.seq ?_ | refine WK.reg ?_ | refine IL.nil ?_ | refine WK.drawnS (id := 1) mixed [] [4, 8, 11] [0, 0, 0, 0, 0, 1, 1, 1, 1, 1, 1, 2, 3, 3] [0, 0, 0, 0, 0, 1, 1, 1, 1, 2, 2, 2, 3, 3] (by decide +kernel) ?_ | refine DW.nil ?_ | (with_reducible refine IL.wr ?_ ?_; focus exact cW) | (with_reducible refine DW.wr ?_ ?_; focus exact cW) | refine IL.sg ttok ?_ | refine DW.re ttok ?_ | refine DW.rm ttok ?_ | refine DW.nn ?_ | refine DW.nb ?_ | refine DW.cS ttok ent19 [.bor, .bor] true ?_ (hS := by exact hsv) | (((first | refine DW.ag (fun h => ?_) (fun h => ?_) | refine DW.ap (fun h => ?_) (fun h => ?_)); (fail_if_success (focus (simp only [reduceCtorEq] at h)))); all_goals first | (simp only [reduceCtorEq] at h; done) | (simp only [hsA, hsD, hsE, ne_eq] at h; first | done | (exfalso; omega; done) | skip) | skip))
  all_goals try ((first | refine WK.ret ⟨.inr rfl, ?_⟩ | refine ⟨.inl rfl, ?_⟩ | refine ⟨.inl trivial, ?_⟩); refine Fin.o ?_ ?_ (h1 := by first | rfl | (simp only [go_sem, show Try.f27.results.toList = [.tmp 4] from rfl, reduceIte] <;> rfl)); rotate_left 1; (focus (first | rfl | skip)); all_goals try with_reducible rfl)
  all_goals skip
theorem first_no (l : List EnV) (e : EnV) (hl : ∀ x ∈ l, nb x) (he : nb e) (hn : l.length ≤ 100000) (h8 : e.d.length * 8 ≤ 140737488355328) (h72 : e.ops.length * 72 ≤ 140737488355328) (h16 : ∀ o ∈ e.ops, o.s.length * 16 ≤ 140737488355328) (hdl : ∀ x ∈ l, x.d.length ≤ 100000)
    (hno : ∀ x, l.find? (fun y => decide (kE y = kE e)) = some x → ¬ x.d = e.d) : SCall Try.prog 18 [.tr l.length (encs envC l), .agg (envC e)] (.v (.bool false)) [.tr l.length (encs envC l), .agg (envC e)] := by
  have hes := envS_frz e.d e.r e.s e.c e.u e.ops h8 h72 h16
  rw [envC_eq]
  refine SCall.of_body' (TT := TT) (fun _ => false) [false, false] ttok Try.func18 rfl (Nat.le_of_ble_eq_true rfl) rfl fun fx hfx => WK.top ?_
  simp only [impl, imp, argT, List.append_nil, List.map_nil, List.nil_append, show Try.f18.ntmps = 25 from rfl, Nat.zero_add, Nat.reduceAdd]
  repeat' (first | refine WK.seq ?_ | refine WK.reg ?_ | refine IL.nil ?_ | refine WK.skip ?_ | refine WK.block ?_ | refine WK.exit_here ?_ | refine WK.e1 ?_ | refine WK.e2 ?_ | refine WK.drawnS (id := 4) mixed [] [2, 5] [0, 0, 0, 0, 0, 1, 2] [0, 0, 0, 1, 1, 1, 2] (by decide +kernel) ?_ | refine WK.drawnS (id := 5) mixed [] [2, 3] [0, 0, 0, 1, 2] [1, 0, 0, 1, 2] (by decide +kernel) ?_ | refine DW.nil ?_ | (with_reducible refine IL.wr ?_ ?_; focus exact cW) | (with_reducible refine DW.wr ?_ ?_; focus exact cW) | refine IL.sg ttok ?_ | refine DW.re ttok ?_ | refine DW.rm ttok ?_ | refine DW.cS ttok ent12 [.bor] false ?_ (hS := by exact hes) | refine DW.cS ttok ent17 [.bor] true ?_ (hS := by exact txId_call _ _ _ _ _) | refine DW.cS ttok ent27 [.bor, .bor] true ?_ (hS := by exact hse) | (refine WK.cn (fun h => ?_) (fun h => ?_); all_goals first | (simp only [reduceCtorEq] at h; done) | (simp only [hsA, hsD, hsE, ne_eq] at h; first | done | (exfalso; omega; done) | skip) | skip))
  refine WK.forS l.length (fun k => l.find? (fun y => decide (kE y = kE e)) = (l.drop k).find? (fun y => decide (kE y = kE e))) (fun k => ⟨25, [(3, .ptr 0 0 0), (7, .tr l.length (encs envC l)), (8, .v (.int .i64 l.length)), (9, .v (.int .i64 k))], [some ⟨false, 0, 1, false, enT e.d e.r e.s e.c e.u e.ops, 0, false⟩]⟩) ⟨by rw [List.drop_zero], ?_⟩ (fun k hk ho => ?_) (fun ho => ?_)
  · (refine Weak.renS [0] hfx rfl ?_ ?_ rfl <;> (simp only [go_sem, reduceIte, exists_eq_left', exists_eq_left, Blk.mk.injEq, enT, enL] <;> (try and_intros) <;> first | rfl | omega))
  · have hx : l[k]? = some l[k] := List.getElem?_eq_getElem hk
    have hle : k * 6 + 6 ≤ l.length * 6 := by omega
    have hat : ((encs envC l).drop (k * 6)).take 6 = envC l[k] := encs_at envC_length hx
    have hne : encs envC l ≠ [] := encs_ne envC_length (by decide) hx
    have hdr : l.drop k = l[k] :: l.drop (k + 1) := List.drop_eq_getElem_cons hk
    have hxb := hl _ (List.getElem_mem hk)
    have hxl := hdl _ (List.getElem_mem hk)
    rw [hdr, List.find?_cons] at ho
    have hkk : (l[k].r = e.r ∧ l[k].s = e.s) ↔ kE l[k] = kE e := by
      unfold nb at hxb he
      unfold kE kN
      omega
    rw [envC_eq] at hat
    by_cases hK : kE l[k] = kE e
    · rw [decide_eq_true hK] at ho
      have hse := sameE_no l[k] e (hno _ ho) hxl
      rw [envC_eq, envC_eq] at hse
      obtain ⟨hr, hs⟩ := hkk.2 hK
      clear ho hx hdr hkk hK hno
      generalize l[k] = x at *
      rw [hr, hs] at hat hse
      have FX := And.intro hat hle
      repeat' (first | refine WK.seq ?_ | refine WK.reg ?_ | refine IL.nil ?_ | refine WK.skip ?_ | refine WK.block ?_ | refine WK.exit_here ?_ | refine WK.e1 ?_ | refine WK.e2 ?_ | refine WK.drawnS (id := 4) mixed [] [2, 5] [0, 0, 0, 0, 0, 1, 2] [0, 0, 0, 1, 1, 1, 2] (by decide +kernel) ?_ | refine WK.drawnS (id := 5) mixed [] [2, 3] [0, 0, 0, 1, 2] [1, 0, 0, 1, 2] (by decide +kernel) ?_ | refine DW.nil ?_ | (with_reducible refine IL.wr ?_ ?_; focus exact cW) | (with_reducible refine DW.wr ?_ ?_; focus exact cW) | refine IL.sgF ttok ?_ | refine DW.reF ttok ?_ | refine DW.rmF ttok ?_ | refine DW.cSF ttok ent12 [.bor] false ?_ (hS := by exact hes) | refine DW.cSF ttok ent17 [.bor] true ?_ (hS := by exact txId_call _ _ _ _ _) | refine DW.cSF ttok ent27 [.bor, .bor] true ?_ (hS := by exact hse) | (refine WK.cn (fun h => ?_) (fun h => ?_); all_goals first | (simp only [reduceCtorEq] at h; done) | (simp only [hsA, hsD, hsE, ne_eq] at h; first | done | (exfalso; omega; done) | skip) | skip))
      all_goals try ((first | refine WK.ret ⟨.inr rfl, ?_⟩ | refine ⟨.inl rfl, ?_⟩ | refine ⟨.inl trivial, ?_⟩); refine Fin.o ?_ ?_ (h1 := by first | rfl | (simp only [go_sem, show Try.f18.results.toList = [.tmp 4] from rfl, reduceIte] <;> rfl)); rotate_left 1; (focus (first | rfl | skip)); all_goals try with_reducible rfl)
      all_goals skip
    · rw [decide_eq_false hK] at ho
      have hno2 : ¬ (l[k].r = e.r ∧ l[k].s = e.s) := fun h => hK (hkk.1 h)
      clear hx hdr hkk hK hno
      generalize l[k] = x at *
      have FX := And.intro hat hle
      repeat' (first | refine WK.seq ?_ | refine WK.reg ?_ | refine IL.nil ?_ | refine WK.skip ?_ | refine WK.block ?_ | refine WK.exit_here ?_ | refine WK.e1 ?_ | refine WK.e2 ?_ | refine WK.drawnS (id := 4) mixed [] [2, 5] [0, 0, 0, 0, 0, 1, 2] [0, 0, 0, 1, 1, 1, 2] (by decide +kernel) ?_ | refine WK.drawnS (id := 5) mixed [] [2, 3] [0, 0, 0, 1, 2] [1, 0, 0, 1, 2] (by decide +kernel) ?_ | refine DW.nil ?_ | (with_reducible refine IL.wr ?_ ?_; focus exact cW) | (with_reducible refine DW.wr ?_ ?_; focus exact cW) | refine IL.sgF ttok ?_ | refine DW.reF ttok ?_ | refine DW.rmF ttok ?_ | refine DW.cSF ttok ent12 [.bor] false ?_ (hS := by exact hes) | refine DW.cSF ttok ent17 [.bor] true ?_ (hS := by exact txId_call _ _ _ _ _) | refine DW.cSF ttok ent27 [.bor, .bor] true ?_ (hS := by exact hse) | (refine WK.cn (fun h => ?_) (fun h => ?_); all_goals first | (simp only [reduceCtorEq] at h; done) | (simp only [hsA, hsD, hsE, ne_eq] at h; first | done | (exfalso; omega; done) | skip) | skip))
      all_goals try ((first | refine WK.ret ⟨.inr rfl, ?_⟩ | refine ⟨.inl rfl, ?_⟩ | refine ⟨.inl trivial, ?_⟩); refine Fin.o ?_ ?_ (h1 := by first | rfl | (simp only [go_sem, show Try.f18.results.toList = [.tmp 4] from rfl, reduceIte] <;> rfl)); rotate_left 1; (focus (first | rfl | skip)); all_goals try with_reducible rfl)
      refine ⟨ho, ?_⟩
      (refine Weak.renS [0] hfx rfl ?_ ?_ rfl <;> (simp only [go_sem, reduceIte, exists_eq_left', exists_eq_left, Blk.mk.injEq, enT, enL] <;> (try and_intros) <;> first | rfl | omega))
  · repeat' (first | refine WK.seq ?_ | refine WK.reg ?_ | refine IL.nil ?_ | refine WK.skip ?_ | refine WK.block ?_ | refine WK.exit_here ?_ | refine WK.e1 ?_ | refine WK.e2 ?_ | refine WK.drawnS (id := 4) mixed [] [2, 5] [0, 0, 0, 0, 0, 1, 2] [0, 0, 0, 1, 1, 1, 2] (by decide +kernel) ?_ | refine WK.drawnS (id := 5) mixed [] [2, 3] [0, 0, 0, 1, 2] [1, 0, 0, 1, 2] (by decide +kernel) ?_ | refine DW.nil ?_ | (with_reducible refine IL.wr ?_ ?_; focus exact cW) | (with_reducible refine DW.wr ?_ ?_; focus exact cW) | refine IL.sg ttok ?_ | refine DW.re ttok ?_ | refine DW.rm ttok ?_ | refine DW.cS ttok ent12 [.bor] false ?_ (hS := by exact hes) | refine DW.cS ttok ent17 [.bor] true ?_ (hS := by exact txId_call _ _ _ _ _) | refine DW.cS ttok ent27 [.bor, .bor] true ?_ (hS := by exact hse) | (refine WK.cn (fun h => ?_) (fun h => ?_); all_goals first | (simp only [reduceCtorEq] at h; done) | (simp only [hsA, hsD, hsE, ne_eq] at h; first | done | (exfalso; omega; done) | skip) | skip))
    all_goals try ((first | refine WK.ret ⟨.inr rfl, ?_⟩ | refine ⟨.inl rfl, ?_⟩ | refine ⟨.inl trivial, ?_⟩); refine Fin.o ?_ ?_ (h1 := by first | rfl | (simp only [go_sem, show Try.f18.results.toList = [.tmp 4] from rfl, reduceIte] <;> rfl)); rotate_left 1; (focus (first | rfl | skip)); all_goals try with_reducible rfl)
    all_goals skip
end Go.Proofs.Ytclhjcbnpdlgbaa
/- what waits, plain: names in order, first ones. -/
namespace Go.Proofs.Ytclhjcbnpdlgbaa
open Go Go.Lift
set_option maxHeartbeats 4000000
set_option linter.unusedSimpArgs false
set_option linter.unusedVariables false

theorem okE_nb {e : EnV} (h : okE e) : nb e := ⟨h.2.1, by have := h.2.2.1; omega⟩
theorem hasE_iff {l : List EnV} (hs : SrtE l) (K : Int) : hasE l K = true ↔ ∃ x ∈ l, kE x = K := by
  unfold hasE
  constructor
  · intro h
    split at h
    · rename_i x hx
      exact ⟨x, List.mem_of_getElem? hx, by simpa using h⟩
    · cases h
  · rintro ⟨x, hx, hk⟩
    obtain ⟨i, hi, rfl⟩ := List.mem_iff_getElem.1 hx
    have h1 := posE_iff hs i _ (List.getElem?_eq_getElem hi) (r := K)
    have hge : posE l K ≤ i := by omega
    have hp : posE l K < l.length := by omega
    have h2 := posE_iff hs (posE l K) _ (List.getElem?_eq_getElem hp) (r := K)
    have hle : ¬ posE l K < i := fun h => by
      have := List.pairwise_iff_getElem.1 hs (posE l K) i hp hi h
      omega
    obtain rfl : i = posE l K := by omega
    rw [List.getElem?_eq_getElem hi]
    simpa using hk
theorem mem_putE {l : List EnV} {e x : EnV} : x ∈ putE l e ↔ x = e ∨ x ∈ l := by
  unfold putE
  rw [List.mem_append, List.mem_append, List.mem_singleton]
  have h : x ∈ l ↔ x ∈ l.take (posE l (kE e)) ∨ x ∈ l.drop (posE l (kE e)) := by rw [← List.mem_append, List.take_append_drop]
  rw [h]
  constructor
  · rintro (h | h | h)
    · exact .inr (.inl h)
    · exact .inl h
    · exact .inr (.inr h)
  · rintro (h | h | h)
    · exact .inr (.inl h)
    · exact .inl h
    · exact .inr (.inr h)
theorem putE_srt {l : List EnV} {e : EnV} (hs : SrtE l) (hno : hasE l (kE e) = false) : SrtE (putE l e) := by
  have hne : ∀ x ∈ l, kE x ≠ kE e := fun x hx hk => by
    have := (hasE_iff hs (kE e)).2 ⟨x, hx, hk⟩
    rw [hno] at this; cases this
  have h1 : ∀ x ∈ l.take (posE l (kE e)), kE x < kE e := fun x hx => by
    obtain ⟨i, hi, rfl⟩ := List.mem_iff_getElem.1 hx
    rw [List.getElem_take]
    rw [List.length_take] at hi
    exact (posE_iff hs i _ (List.getElem?_eq_getElem (by omega)) (r := kE e)).2 (by omega)
  have h2 : ∀ x ∈ l.drop (posE l (kE e)), kE e < kE x := fun x hx => by
    have hm := List.mem_of_mem_drop hx
    obtain ⟨i, hi, rfl⟩ := List.mem_iff_getElem.1 hx
    rw [List.length_drop] at hi
    rw [List.getElem_drop] at hm ⊢
    have h3 := (posE_iff hs (posE l (kE e) + i) _ (List.getElem?_eq_getElem (by omega)) (r := kE e))
    have h4 := hne _ hm
    omega
  unfold SrtE putE
  rw [List.pairwise_append]
  refine ⟨hs.sublist (List.take_sublist _ _), ?_, fun a ha b hb => ?_⟩
  · rw [List.singleton_append, List.pairwise_cons]
    exact ⟨h2, hs.sublist (List.drop_sublist _ _)⟩
  · rw [List.mem_append, List.mem_singleton] at hb
    rcases hb with rfl | hb
    · exact h1 a ha
    · exact Int.lt_trans (h1 a ha) (h2 b hb)
def stpE (B : List EnV) (e : EnV) : List EnV := if hasE B (kE e) = true then B else putE B e
structure Buf (p B : List EnV) : Prop where
  s : SrtE B
  ok : ∀ x ∈ B, okE x
  len : B.length ≤ p.length
  fst : ∀ x ∈ B, p.find? (fun y => decide (kE y = kE x)) = some x
  all : ∀ y ∈ p, ∃ x ∈ B, kE x = kE y
theorem Buf.nil : Buf [] [] := ⟨List.Pairwise.nil, by simp, Nat.le_refl _, by simp, by simp⟩
theorem Buf.put {p B : List EnV} {e : EnV} (h : Buf p B) (he : okE e) : Buf (p ++ [e]) (stpE B e) := by
  unfold stpE
  by_cases hh : hasE B (kE e) = true
  · rw [if_pos hh]
    obtain ⟨x, hx, hk⟩ := (hasE_iff h.s _).1 hh
    refine ⟨h.s, h.ok, by have := h.len; rw [List.length_append]; omega, fun x hx => ?_, fun y hy => ?_⟩
    · rw [List.find?_append, h.fst x hx]; rfl
    · rcases List.mem_append.1 hy with hy | hy
      · exact h.all y hy
      · rw [List.mem_singleton.1 hy]; exact ⟨x, hx, hk⟩
  · rw [if_neg hh]
    have hno : hasE B (kE e) = false := Bool.eq_false_iff.2 hh
    have hnk : ∀ y ∈ p, kE y ≠ kE e := fun y hy hk => by
      obtain ⟨x, hx, hxk⟩ := h.all y hy
      exact hh ((hasE_iff h.s _).2 ⟨x, hx, hxk.trans hk⟩)
    refine ⟨putE_srt h.s hno, fun x hx => ?_, by have := h.len; rw [putE_len, List.length_append, List.length_singleton]; omega, fun x hx => ?_, fun y hy => ?_⟩
    · rcases mem_putE.1 hx with rfl | hx
      · exact he
      · exact h.ok x hx
    · rcases mem_putE.1 hx with rfl | hx
      · have h0 : p.find? (fun y => decide (kE y = kE x)) = none := List.find?_eq_none.2 fun y hy => by simpa using hnk y hy
        rw [List.find?_append, h0]; simp
      · rw [List.find?_append, h.fst x hx]; rfl
    · rcases List.mem_append.1 hy with hy | hy
      · obtain ⟨x, hx, hk⟩ := h.all y hy
        exact ⟨x, mem_putE.2 (.inr hx), hk⟩
      · rw [List.mem_singleton.1 hy]; exact ⟨e, mem_putE.2 (.inl rfl), rfl⟩
theorem rdy_cases (v : List Vc.Ve) : ∀ B : List EnV, (∀ x ∈ B, rdyE v x = false) ∨ ∃ (K : Nat) (e : EnV), B[K]? = some e ∧ rdyE v e = true ∧ ∀ (j : Nat) (x : EnV), j < K → B[j]? = some x → rdyE v x = false
  | [] => .inl (by simp)
  | b :: B => by
    by_cases hb : rdyE v b = true
    · exact .inr ⟨0, b, rfl, hb, fun j x hj => by omega⟩
    · rcases rdy_cases v B with h | ⟨K, e, h1, h2, h3⟩
      · refine .inl fun x hx => ?_
        rcases List.mem_cons.1 hx with rfl | hx
        · exact Bool.eq_false_iff.2 hb
        · exact h x hx
      · refine .inr ⟨K + 1, e, by simpa using h1, h2, fun j x hj hx => ?_⟩
        cases j with
        | zero => simp at hx; subst hx; exact Bool.eq_false_iff.2 hb
        | succ j => exact h3 j x (by omega) (by simpa using hx)
theorem mem_without {B : List EnV} {K : Nat} {x : EnV} (h : x ∈ B.take K ++ B.drop (K + 1)) : x ∈ B := by
  rcases List.mem_append.1 h with h | h
  · exact List.mem_of_mem_take h
  · exact List.mem_of_mem_drop h
theorem without_srt {B : List EnV} (hs : SrtE B) (K : Nat) : SrtE (B.take K ++ B.drop (K + 1)) := by
  have : (B.take K ++ B.drop (K + 1)).Sublist B := by
    have h := List.Sublist.append (List.Sublist.refl (B.take K)) (List.drop_sublist_drop_left B (Nat.le_succ K))
    rwa [List.take_append_drop] at h
  exact hs.sublist this
theorem without_len {B : List EnV} {K : Nat} (h : K < B.length) : (B.take K ++ B.drop (K + 1)).length + 1 = B.length := by
  simp only [List.length_append, List.length_take, List.length_drop]; omega
theorem rdyE_same {v : List Vc.Ve} {x e : EnV} (hx : nb x) (he : nb e) (hk : kE x = kE e) (hd : x.d = e.d) : rdyE v x = rdyE v e := by
  unfold nb at hx he
  unfold kE kN at hk
  have h1 : x.r = e.r := by omega
  have h2 : x.s = e.s := by omega
  unfold rdyE
  rw [h1, h2, hd]
open Classical in
theorem smallE_ok {e : EnV} (hw : wfD e.d) (hr : 0 ≤ e.r ∧ e.r ≤ 65535) (h : smallE e.d e.r e.s e.c e.u e.ops) : okE e := by
  obtain ⟨⟨h1, h2⟩, h3⟩ := h
  obtain ⟨f1, f2, f3⟩ := fit10_ok h3
  have f4 := fit9_ok f3
  exact ⟨Vc.Vec.of f1 fun x hx => (hw x hx).1, hr, ⟨f4.1, f4.2.1⟩, by omega⟩
end Go.Proofs.Ytclhjcbnpdlgbaa
/- HoldDrains: its function. -/
namespace Go.Proofs.Ytclhjcbnpdlgbaa
open Go Go.Lift
set_option maxHeartbeats 8000000
set_option linter.unusedSimpArgs false
set_option linter.unusedVariables false
attribute [local irreducible] WK IL IP IG IW DW

structure GE (e : EnV) : Prop where
  d : wfD e.d
  n : nb e
  o : ∀ o ∈ e.ops, wfC o
  d8 : e.d.length * 8 ≤ 140737488355328
  o72 : e.ops.length * 72 ≤ 140737488355328
  s16 : ∀ o ∈ e.ops, o.s.length * 16 ≤ 140737488355328
  t : ∀ o ∈ e.ops, o.t.length ≤ 9223372036854775807 ∧ o.s.length ≤ 9223372036854775807
theorem bgE {l : List EnV} {k : Nat} (h : k < l.length) : l.take (k + 1) = l.take k ++ [l[k]] := by
  rw [List.take_add_one, List.getElem?_eq_getElem h]; rfl
def bufK (l : List EnV) (k : Nat) : List EnV := (l.take k).foldl stpE []
theorem bufK_succ {l : List EnV} {k : Nat} (h : k < l.length) : bufK l (k + 1) = stpE (bufK l k) l[k] := by
  unfold bufK; rw [bgE h, List.foldl_append]; rfl
open Classical in
theorem holdDrains_call (l : List EnV) (v0 : List Vc.Ve) (hl : ∀ e ∈ l, GE e) (hll : l.length ≤ 9223372036854775807) (hv0 : wfD v0) (hv8 : v0.length * 8 ≤ 140737488355328) :
    SCall Try.prog 3 [.tr l.length (encs envC l), .tr v0.length (encs Vc.veC v0)] (.v (.bool true)) [.tr l.length (encs envC l), .tr v0.length (encs Vc.veC v0)] := by
  by_cases h60 : l.length ≤ 60
  rotate_left
  · refine SCall.of_body' (TT := TT) (fun _ => false) [false, false] ttok Try.func3 rfl (Nat.le_of_ble_eq_true rfl) rfl fun fx hfx => WK.top ?_
    simp only [impl, imp, argT, List.append_nil, List.map_nil, List.nil_append, show Try.f3.ntmps = 110 from rfl, Nat.zero_add, Nat.reduceAdd]
    repeat' (first | refine WK.seq ?_ | refine WK.reg ?_ | refine IL.nil ?_ | refine WK.skip ?_ | refine WK.block ?_ | refine WK.exit_here ?_ | refine WK.e1 ?_ | refine WK.e2 ?_ | refine WK.drawnS (id := 33) mixed [] [3, 8] [0, 0, 0, 0, 1, 1, 1, 1, 1, 2] [1, 0, 0, 0, 1, 1, 1, 1, 1, 2] (by decide +kernel) ?_ | refine DW.nil ?_ | (with_reducible refine IL.wr ?_ ?_; focus exact cW) | (with_reducible refine DW.wr ?_ ?_; focus exact cW) | refine IL.sg ttok ?_ | refine IL.nn ?_ | refine DW.re ttok ?_ | refine DW.rm ttok ?_ | refine DW.nn ?_ | refine DW.nb ?_ | refine IL.cS ttok ent6 [] true ?_ (hS := by exact anchor11) | refine IL.cS ttok ent7 [.bor] true ?_ (hS := by exact hri) | refine IL.cS ttok ent8 [.bor] true ?_ (hS := by exact hsm) | refine IL.cS ttok ent9 [.own, .bor] false ?_ (hS := by exact hpu) | refine IL.cS ttok ent10 [.bor] false ?_ (hS := by exact hvs) | refine IL.cS ttok ent11 [.own, .bor] false ?_ (hS := by exact hta) | refine IL.cS ttok ent12 [.bor] false ?_ (hS := by exact hes) | refine IL.cS ttok ent13 [.bor, .bor] true ?_ (hS := by exact hrr) | refine IL.cS ttok ent14 [.bor, .bor, .bor] false ?_ (hS := by exact hrw) | refine IL.cS ttok ent15 [.bor, .bor, .bor] false ?_ (hS := by exact hcw) | refine IL.cS ttok ent16 [.own] false ?_ (hS := by exact hna) | refine DW.cS ttok ent17 [.bor] true ?_ (hS := by exact txId_call _ _ _ _ _) | refine DW.cS ttok ent18 [.bor, .bor] true ?_ (hS := by exact hfi) | refine IL.cS ttok ent19 [.bor, .bor] true ?_ (hS := by exact hsv) | ((first | ((first | refine IL.ag (fun h => ?_) (fun h => ?_) | refine DW.ag (fun h => ?_) (fun h => ?_) | refine IL.ap (fun h => ?_) (fun h => ?_) | refine DW.ap (fun h => ?_) (fun h => ?_)); (fail_if_success (focus (simp only [reduceCtorEq] at h)))) | refine WK.cn (fun h => ?_) (fun h => ?_)); all_goals first | (simp only [reduceCtorEq] at h; done) | (simp only [hsA, hsD, hsE, ne_eq] at h; first | done | (exfalso; omega; done) | skip) | skip))
    all_goals try ((first | refine WK.ret ⟨.inr rfl, ?_⟩ | refine ⟨.inl rfl, ?_⟩ | refine ⟨.inl trivial, ?_⟩); refine Fin.o ?_ ?_ (h1 := by first | rfl | (simp only [go_sem, show Try.f3.results.toList = [.tmp 4] from rfl, reduceIte] <;> rfl)); rotate_left 1; (focus (first | rfl | skip)); all_goals try with_reducible rfl)
    all_goals skip
  have hri := rightS_call v0 (fun x hx => (hv0 x hx).1) hv8
  by_cases hR : v0.length ≤ 100 ∧ Vc.rightB v0 = true
  rotate_left
  · rw [show (decide (v0.length ≤ 100) && Vc.rightB v0) = false from by
      rw [Bool.eq_false_iff]; intro h; rw [Bool.and_eq_true, decide_eq_true_eq] at h; exact hR h] at hri
    refine SCall.of_body' (TT := TT) (fun _ => false) [false, false] ttok Try.func3 rfl (Nat.le_of_ble_eq_true rfl) rfl fun fx hfx => WK.top ?_
    simp only [impl, imp, argT, List.append_nil, List.map_nil, List.nil_append, show Try.f3.ntmps = 110 from rfl, Nat.zero_add, Nat.reduceAdd]
    repeat' (first | refine WK.seq ?_ | refine WK.reg ?_ | refine IL.nil ?_ | refine WK.skip ?_ | refine WK.block ?_ | refine WK.exit_here ?_ | refine WK.e1 ?_ | refine WK.e2 ?_ | refine WK.drawnS (id := 33) mixed [] [3, 8] [0, 0, 0, 0, 1, 1, 1, 1, 1, 2] [1, 0, 0, 0, 1, 1, 1, 1, 1, 2] (by decide +kernel) ?_ | refine DW.nil ?_ | (with_reducible refine IL.wr ?_ ?_; focus exact cW) | (with_reducible refine DW.wr ?_ ?_; focus exact cW) | refine IL.sg ttok ?_ | refine IL.nn ?_ | refine DW.re ttok ?_ | refine DW.rm ttok ?_ | refine DW.nn ?_ | refine DW.nb ?_ | refine IL.cS ttok ent6 [] true ?_ (hS := by exact anchor11) | refine IL.cS ttok ent7 [.bor] true ?_ (hS := by exact hri) | refine IL.cS ttok ent8 [.bor] true ?_ (hS := by exact hsm) | refine IL.cS ttok ent9 [.own, .bor] false ?_ (hS := by exact hpu) | refine IL.cS ttok ent10 [.bor] false ?_ (hS := by exact hvs) | refine IL.cS ttok ent11 [.own, .bor] false ?_ (hS := by exact hta) | refine IL.cS ttok ent12 [.bor] false ?_ (hS := by exact hes) | refine IL.cS ttok ent13 [.bor, .bor] true ?_ (hS := by exact hrr) | refine IL.cS ttok ent14 [.bor, .bor, .bor] false ?_ (hS := by exact hrw) | refine IL.cS ttok ent15 [.bor, .bor, .bor] false ?_ (hS := by exact hcw) | refine IL.cS ttok ent16 [.own] false ?_ (hS := by exact hna) | refine DW.cS ttok ent17 [.bor] true ?_ (hS := by exact txId_call _ _ _ _ _) | refine DW.cS ttok ent18 [.bor, .bor] true ?_ (hS := by exact hfi) | refine IL.cS ttok ent19 [.bor, .bor] true ?_ (hS := by exact hsv) | ((first | ((first | refine IL.ag (fun h => ?_) (fun h => ?_) | refine DW.ag (fun h => ?_) (fun h => ?_) | refine IL.ap (fun h => ?_) (fun h => ?_) | refine DW.ap (fun h => ?_) (fun h => ?_)); (fail_if_success (focus (simp only [reduceCtorEq] at h)))) | refine WK.cn (fun h => ?_) (fun h => ?_)); all_goals first | (simp only [reduceCtorEq] at h; done) | (simp only [hsA, hsD, hsE, ne_eq] at h; first | done | (exfalso; omega; done) | skip) | skip))
    all_goals try ((first | refine WK.ret ⟨.inr rfl, ?_⟩ | refine ⟨.inl rfl, ?_⟩ | refine ⟨.inl trivial, ?_⟩); refine Fin.o ?_ ?_ (h1 := by first | rfl | (simp only [go_sem, show Try.f3.results.toList = [.tmp 4] from rfl, reduceIte] <;> rfl)); rotate_left 1; (focus (first | rfl | skip)); all_goals try with_reducible rfl)
    all_goals skip
  obtain ⟨hR1, hR2⟩ := hR
  rw [decide_eq_true hR1, hR2] at hri
  simp only [Bool.and_self] at hri
  have hv0v : Vc.Vec v0 := Vc.Vec.of hR2 fun x hx => (hv0 x hx).1
  have hvs := SCall.frz (vecS_call v0 hv8) rfl
  simp only [frzR] at hvs
  clear hR2
  refine SCall.of_body' (TT := TT) (fun _ => false) [false, false] ttok Try.func3 rfl (Nat.le_of_ble_eq_true rfl) rfl fun fx hfx => WK.top ?_
  simp only [impl, imp, argT, List.append_nil, List.map_nil, List.nil_append, show Try.f3.ntmps = 110 from rfl, Nat.zero_add, Nat.reduceAdd]
  repeat' (first | refine WK.seq ?_ | refine WK.reg ?_ | refine IL.nil ?_ | refine WK.skip ?_ | refine WK.block ?_ | refine WK.exit_here ?_ | refine WK.e1 ?_ | refine WK.e2 ?_ | refine WK.drawnS (id := 33) mixed [] [3, 8] [0, 0, 0, 0, 1, 1, 1, 1, 1, 2] [1, 0, 0, 0, 1, 1, 1, 1, 1, 2] (by decide +kernel) ?_ | refine DW.nil ?_ | (with_reducible refine IL.wr ?_ ?_; focus exact cW) | (with_reducible refine DW.wr ?_ ?_; focus exact cW) | refine IL.sg ttok ?_ | refine IL.nn ?_ | refine DW.re ttok ?_ | refine DW.rm ttok ?_ | refine DW.nn ?_ | refine DW.nb ?_ | refine IL.cS ttok ent6 [] true ?_ (hS := by exact anchor11) | refine IL.cS ttok ent7 [.bor] true ?_ (hS := by exact hri) | refine IL.cS ttok ent8 [.bor] true ?_ (hS := by exact hsm) | refine IL.cS ttok ent9 [.own, .bor] false ?_ (hS := by exact hpu) | refine IL.cS ttok ent10 [.bor] false ?_ (hS := by exact hvs) | refine IL.cS ttok ent11 [.own, .bor] false ?_ (hS := by exact hta) | refine IL.cS ttok ent12 [.bor] false ?_ (hS := by exact hes) | refine IL.cS ttok ent13 [.bor, .bor] true ?_ (hS := by exact hrr) | refine IL.cS ttok ent14 [.bor, .bor, .bor] false ?_ (hS := by exact hrw) | refine IL.cS ttok ent15 [.bor, .bor, .bor] false ?_ (hS := by exact hcw) | refine IL.cS ttok ent16 [.own] false ?_ (hS := by exact hna) | refine DW.cS ttok ent17 [.bor] true ?_ (hS := by exact txId_call _ _ _ _ _) | refine DW.cS ttok ent18 [.bor, .bor] true ?_ (hS := by exact hfi) | refine IL.cS ttok ent19 [.bor, .bor] true ?_ (hS := by exact hsv) | ((first | ((first | refine IL.ag (fun h => ?_) (fun h => ?_) | refine DW.ag (fun h => ?_) (fun h => ?_) | refine IL.ap (fun h => ?_) (fun h => ?_) | refine DW.ap (fun h => ?_) (fun h => ?_)); (fail_if_success (focus (simp only [reduceCtorEq] at h)))) | refine WK.cn (fun h => ?_) (fun h => ?_)); all_goals first | (simp only [reduceCtorEq] at h; done) | (simp only [hsA, hsD, hsE, ne_eq] at h; first | done | (exfalso; omega; done) | skip) | skip))
  refine WK.forS l.length (fun k => Buf (l.take k) (bufK l k) ∧ ∀ e ∈ l.take k, okE e) (fun k => ⟨110, [(0, .tr l.length (encs envC l)), (1, .tr v0.length (encs Vc.veC v0)), (5, .ptr 0 0 0), (28, .tr l.length (encs envC l)), (29, .v (.int .i64 l.length)), (30, .v (.int .i64 k))], [some ⟨false, 0, 1, false, [.sl 1 0 0 (bufK l k).length], 0, false⟩, some ⟨true, 36, (bufK l k).length, false, encs envC (bufK l k), 0, false⟩]⟩) ⟨⟨Buf.nil, by simp⟩, ?_⟩ (fun k hk ho => ?_) (fun ho => ?_)
  · rw [show bufK l 0 = [] from rfl]
    (refine Weak.renS [1, 0] hfx rfl ?_ ?_ rfl <;> (simp only [go_sem, reduceIte, exists_eq_left', exists_eq_left, Blk.mk.injEq, encs_nil, List.length_nil] <;> (try and_intros) <;> first | rfl | omega))
  · obtain ⟨hb, hok⟩ := ho
    have hx : l[k]? = some l[k] := List.getElem?_eq_getElem hk
    have hle : k * 6 + 6 ≤ l.length * 6 := by omega
    have hat : ((encs envC l).drop (k * 6)).take 6 = envC l[k] := encs_at envC_length hx
    have hne : encs envC l ≠ [] := encs_ne envC_length (by decide) hx
    have hg := hl _ (List.getElem_mem hk)
    have hbk := bufK_succ hk
    have htk := bgE hk
    have hsm := smallS_call l[k].d l[k].r l[k].s l[k].c l[k].u l[k].ops hg.d8 hg.d hg.o72 hg.s16 hg.t hg.o
    have hlen := hb.len
    rw [List.length_take] at hlen
    rw [envC_eq] at hat
    by_cases hS : smallE l[k].d l[k].r l[k].s l[k].c l[k].u l[k].ops
    rotate_left
    · rw [decide_eq_false hS] at hsm
      generalize l[k] = e at *
      have FX := And.intro hat hle
      repeat' (first | refine WK.seq ?_ | refine WK.reg ?_ | refine IL.nil ?_ | refine WK.skip ?_ | refine WK.block ?_ | refine WK.exit_here ?_ | refine WK.e1 ?_ | refine WK.e2 ?_ | refine WK.drawnS (id := 33) mixed [] [3, 8] [0, 0, 0, 0, 1, 1, 1, 1, 1, 2] [1, 0, 0, 0, 1, 1, 1, 1, 1, 2] (by decide +kernel) ?_ | refine DW.nil ?_ | (with_reducible refine IL.wr ?_ ?_; focus exact cW) | (with_reducible refine DW.wr ?_ ?_; focus exact cW) | refine IL.sgF ttok ?_ | refine IL.nn ?_ | refine DW.reF ttok ?_ | refine DW.rmF ttok ?_ | refine DW.nn ?_ | refine DW.nb ?_ | refine IL.cSF ttok ent6 [] true ?_ (hS := by exact anchor11) | refine IL.cSF ttok ent7 [.bor] true ?_ (hS := by exact hri) | refine IL.cSF ttok ent8 [.bor] true ?_ (hS := by exact hsm) | refine IL.cSF ttok ent9 [.own, .bor] false ?_ (hS := by exact hpu) | refine IL.cSF ttok ent10 [.bor] false ?_ (hS := by exact hvs) | refine IL.cSF ttok ent11 [.own, .bor] false ?_ (hS := by exact hta) | refine IL.cSF ttok ent12 [.bor] false ?_ (hS := by exact hes) | refine IL.cSF ttok ent13 [.bor, .bor] true ?_ (hS := by exact hrr) | refine IL.cSF ttok ent14 [.bor, .bor, .bor] false ?_ (hS := by exact hrw) | refine IL.cSF ttok ent15 [.bor, .bor, .bor] false ?_ (hS := by exact hcw) | refine IL.cSF ttok ent16 [.own] false ?_ (hS := by exact hna) | refine DW.cSF ttok ent17 [.bor] true ?_ (hS := by exact txId_call _ _ _ _ _) | refine DW.cSF ttok ent18 [.bor, .bor] true ?_ (hS := by exact hfi) | refine IL.cSF ttok ent19 [.bor, .bor] true ?_ (hS := by exact hsv) | ((first | ((first | refine IL.ag (fun h => ?_) (fun h => ?_) | refine DW.ag (fun h => ?_) (fun h => ?_) | refine IL.ap (fun h => ?_) (fun h => ?_) | refine DW.ap (fun h => ?_) (fun h => ?_)); (fail_if_success (focus (simp only [reduceCtorEq] at h)))) | refine WK.cn (fun h => ?_) (fun h => ?_)); all_goals first | (simp only [reduceCtorEq] at h; done) | (simp only [hsA, hsD, hsE, ne_eq] at h; first | done | (exfalso; omega; done) | skip) | skip))
      all_goals try ((first | refine WK.ret ⟨.inr rfl, ?_⟩ | refine ⟨.inl rfl, ?_⟩ | refine ⟨.inl trivial, ?_⟩); refine Fin.o ?_ ?_ (h1 := by first | rfl | (simp only [go_sem, show Try.f3.results.toList = [.tmp 4] from rfl, reduceIte] <;> rfl)); rotate_left 1; (focus (first | rfl | skip)); all_goals try with_reducible rfl)
      all_goals skip
    rw [decide_eq_true hS] at hsm
    have hoe := smallE_ok hg.d hg.n.1 hS
    have hb2 := hb.put hoe
    have hnx : Buf (l.take (k + 1)) (bufK l (k + 1)) ∧ ∀ e ∈ l.take (k + 1), okE e := by
      rw [htk, hbk]
      refine ⟨hb2, fun e he => ?_⟩
      rcases List.mem_append.1 he with he | he
      · exact hok e he
      · rw [List.mem_singleton.1 he]; exact hoe
    have hnb : ∀ x ∈ bufK l k, nb x := fun x hx => okE_nb (hb.ok x hx)
    have hbs := hb.s
    rw [hbk] at hnx ⊢
    unfold stpE at hnx ⊢
    by_cases hh : hasE (bufK l k) (kE l[k]) = true
    · rw [if_pos hh] at hnx ⊢
      have hpu := put_has (bufK l k) l[k] hbs hnb hg.n (by omega) hh
      rw [envC_eq] at hpu
      clear hh hb2 hbk htk hx hb
      generalize bufK l k = B at *
      generalize l[k] = e at *
      have FX := And.intro hat hle
      repeat' (first | refine WK.seq ?_ | refine WK.reg ?_ | refine IL.nil ?_ | refine WK.skip ?_ | refine WK.block ?_ | refine WK.exit_here ?_ | refine WK.e1 ?_ | refine WK.e2 ?_ | refine WK.drawnS (id := 33) mixed [] [3, 8] [0, 0, 0, 0, 1, 1, 1, 1, 1, 2] [1, 0, 0, 0, 1, 1, 1, 1, 1, 2] (by decide +kernel) ?_ | refine DW.nil ?_ | (with_reducible refine IL.wr ?_ ?_; focus exact cW) | (with_reducible refine DW.wr ?_ ?_; focus exact cW) | refine IL.sgF ttok ?_ | refine IL.nn ?_ | refine DW.reF ttok ?_ | refine DW.rmF ttok ?_ | refine DW.nn ?_ | refine DW.nb ?_ | refine IL.cSF ttok ent6 [] true ?_ (hS := by exact anchor11) | refine IL.cSF ttok ent7 [.bor] true ?_ (hS := by exact hri) | refine IL.cSF ttok ent8 [.bor] true ?_ (hS := by exact hsm) | refine IL.cSF ttok ent9 [.own, .bor] false ?_ (hS := by exact hpu) | refine IL.cSF ttok ent10 [.bor] false ?_ (hS := by exact hvs) | refine IL.cSF ttok ent11 [.own, .bor] false ?_ (hS := by exact hta) | refine IL.cSF ttok ent12 [.bor] false ?_ (hS := by exact hes) | refine IL.cSF ttok ent13 [.bor, .bor] true ?_ (hS := by exact hrr) | refine IL.cSF ttok ent14 [.bor, .bor, .bor] false ?_ (hS := by exact hrw) | refine IL.cSF ttok ent15 [.bor, .bor, .bor] false ?_ (hS := by exact hcw) | refine IL.cSF ttok ent16 [.own] false ?_ (hS := by exact hna) | refine DW.cSF ttok ent17 [.bor] true ?_ (hS := by exact txId_call _ _ _ _ _) | refine DW.cSF ttok ent18 [.bor, .bor] true ?_ (hS := by exact hfi) | refine IL.cSF ttok ent19 [.bor, .bor] true ?_ (hS := by exact hsv) | ((first | ((first | refine IL.ag (fun h => ?_) (fun h => ?_) | refine DW.ag (fun h => ?_) (fun h => ?_) | refine IL.ap (fun h => ?_) (fun h => ?_) | refine DW.ap (fun h => ?_) (fun h => ?_)); (fail_if_success (focus (simp only [reduceCtorEq] at h)))) | refine WK.cn (fun h => ?_) (fun h => ?_)); all_goals first | (simp only [reduceCtorEq] at h; done) | (simp only [hsA, hsD, hsE, ne_eq] at h; first | done | (exfalso; omega; done) | skip) | skip))
      all_goals try ((first | refine WK.ret ⟨.inr rfl, ?_⟩ | refine ⟨.inl rfl, ?_⟩ | refine ⟨.inl trivial, ?_⟩); refine Fin.o ?_ ?_ (h1 := by first | rfl | (simp only [go_sem, show Try.f3.results.toList = [.tmp 4] from rfl, reduceIte] <;> rfl)); rotate_left 1; (focus (first | rfl | skip)); all_goals try with_reducible rfl)
      refine ⟨hnx, ?_⟩
      (refine Weak.renS [0, 5] hfx rfl ?_ ?_ rfl <;> (simp only [go_sem, reduceIte, exists_eq_left', exists_eq_left, Blk.mk.injEq] <;> (try and_intros) <;> first | rfl | omega))
    · rw [if_neg hh] at hnx ⊢
      have hpu := put_ok (bufK l k) l[k] hbs hnb hg.n (by omega) (Bool.eq_false_iff.2 hh) (by omega)
      rw [envC_eq] at hpu
      clear hh hb2 hbk htk hx hb
      generalize putE (bufK l k) l[k] = B2 at *
      generalize bufK l k = B at *
      generalize l[k] = e at *
      have FX := And.intro hat hle
      repeat' (first | refine WK.seq ?_ | refine WK.reg ?_ | refine IL.nil ?_ | refine WK.skip ?_ | refine WK.block ?_ | refine WK.exit_here ?_ | refine WK.e1 ?_ | refine WK.e2 ?_ | refine WK.drawnS (id := 33) mixed [] [3, 8] [0, 0, 0, 0, 1, 1, 1, 1, 1, 2] [1, 0, 0, 0, 1, 1, 1, 1, 1, 2] (by decide +kernel) ?_ | refine DW.nil ?_ | (with_reducible refine IL.wr ?_ ?_; focus exact cW) | (with_reducible refine DW.wr ?_ ?_; focus exact cW) | refine IL.sgF ttok ?_ | refine IL.nn ?_ | refine DW.reF ttok ?_ | refine DW.rmF ttok ?_ | refine DW.nn ?_ | refine DW.nb ?_ | refine IL.cSF ttok ent6 [] true ?_ (hS := by exact anchor11) | refine IL.cSF ttok ent7 [.bor] true ?_ (hS := by exact hri) | refine IL.cSF ttok ent8 [.bor] true ?_ (hS := by exact hsm) | refine IL.cSF ttok ent9 [.own, .bor] false ?_ (hS := by exact hpu) | refine IL.cSF ttok ent10 [.bor] false ?_ (hS := by exact hvs) | refine IL.cSF ttok ent11 [.own, .bor] false ?_ (hS := by exact hta) | refine IL.cSF ttok ent12 [.bor] false ?_ (hS := by exact hes) | refine IL.cSF ttok ent13 [.bor, .bor] true ?_ (hS := by exact hrr) | refine IL.cSF ttok ent14 [.bor, .bor, .bor] false ?_ (hS := by exact hrw) | refine IL.cSF ttok ent15 [.bor, .bor, .bor] false ?_ (hS := by exact hcw) | refine IL.cSF ttok ent16 [.own] false ?_ (hS := by exact hna) | refine DW.cSF ttok ent17 [.bor] true ?_ (hS := by exact txId_call _ _ _ _ _) | refine DW.cSF ttok ent18 [.bor, .bor] true ?_ (hS := by exact hfi) | refine IL.cSF ttok ent19 [.bor, .bor] true ?_ (hS := by exact hsv) | ((first | ((first | refine IL.ag (fun h => ?_) (fun h => ?_) | refine DW.ag (fun h => ?_) (fun h => ?_) | refine IL.ap (fun h => ?_) (fun h => ?_) | refine DW.ap (fun h => ?_) (fun h => ?_)); (fail_if_success (focus (simp only [reduceCtorEq] at h)))) | refine WK.cn (fun h => ?_) (fun h => ?_)); all_goals first | (simp only [reduceCtorEq] at h; done) | (simp only [hsA, hsD, hsE, ne_eq] at h; first | done | (exfalso; omega; done) | skip) | skip))
      all_goals try ((first | refine WK.ret ⟨.inr rfl, ?_⟩ | refine ⟨.inl rfl, ?_⟩ | refine ⟨.inl trivial, ?_⟩); refine Fin.o ?_ ?_ (h1 := by first | rfl | (simp only [go_sem, show Try.f3.results.toList = [.tmp 4] from rfl, reduceIte] <;> rfl)); rotate_left 1; (focus (first | rfl | skip)); all_goals try with_reducible rfl)
      refine ⟨hnx, ?_⟩
      (refine Weak.renS [0, 5] hfx rfl ?_ ?_ rfl <;> (simp only [go_sem, reduceIte, exists_eq_left', exists_eq_left, Blk.mk.injEq] <;> (try and_intros) <;> first | rfl | omega))
  rw [List.take_length] at ho
  obtain ⟨hb, hok⟩ := ho
  have hbl := hb.len
  generalize bufK l l.length = B0 at *
  have hmem : ∀ x, l.find? (fun y => decide (kE y = kE x)) = some x → x ∈ l := fun x h => List.mem_of_find?_eq_some h
  repeat' (first | refine WK.seq ?_ | refine WK.reg ?_ | refine IL.nil ?_ | refine WK.skip ?_ | refine WK.block ?_ | refine WK.exit_here ?_ | refine WK.e1 ?_ | refine WK.e2 ?_ | refine WK.drawnS (id := 33) mixed [] [3, 8] [0, 0, 0, 0, 1, 1, 1, 1, 1, 2] [1, 0, 0, 0, 1, 1, 1, 1, 1, 2] (by decide +kernel) ?_ | refine DW.nil ?_ | (with_reducible refine IL.wr ?_ ?_; focus exact cW) | (with_reducible refine DW.wr ?_ ?_; focus exact cW) | refine IL.sg ttok ?_ | refine IL.nn ?_ | refine DW.re ttok ?_ | refine DW.rm ttok ?_ | refine DW.nn ?_ | refine DW.nb ?_ | refine IL.cS ttok ent6 [] true ?_ (hS := by exact anchor11) | refine IL.cS ttok ent7 [.bor] true ?_ (hS := by exact hri) | refine IL.cS ttok ent8 [.bor] true ?_ (hS := by exact hsm) | refine IL.cS ttok ent9 [.own, .bor] false ?_ (hS := by exact hpu) | refine IL.cS ttok ent10 [.bor] false ?_ (hS := by exact hvs) | refine IL.cS ttok ent11 [.own, .bor] false ?_ (hS := by exact hta) | refine IL.cS ttok ent12 [.bor] false ?_ (hS := by exact hes) | refine IL.cS ttok ent13 [.bor, .bor] true ?_ (hS := by exact hrr) | refine IL.cS ttok ent14 [.bor, .bor, .bor] false ?_ (hS := by exact hrw) | refine IL.cS ttok ent15 [.bor, .bor, .bor] false ?_ (hS := by exact hcw) | refine IL.cS ttok ent16 [.own] false ?_ (hS := by exact hna) | refine DW.cS ttok ent17 [.bor] true ?_ (hS := by exact txId_call _ _ _ _ _) | refine DW.cS ttok ent18 [.bor, .bor] true ?_ (hS := by exact hfi) | refine IL.cS ttok ent19 [.bor, .bor] true ?_ (hS := by exact hsv) | ((first | ((first | refine IL.ag (fun h => ?_) (fun h => ?_) | refine DW.ag (fun h => ?_) (fun h => ?_) | refine IL.ap (fun h => ?_) (fun h => ?_) | refine DW.ap (fun h => ?_) (fun h => ?_)); (fail_if_success (focus (simp only [reduceCtorEq] at h)))) | refine WK.cn (fun h => ?_) (fun h => ?_)); all_goals first | (simp only [reduceCtorEq] at h; done) | (simp only [hsA, hsD, hsE, ne_eq] at h; first | done | (exfalso; omega; done) | skip) | skip))
  refine WK.whileS (α := Nat × List EnV × List Vc.Ve) (fun x => l.length + 1 - x.1) (fun x => x.1 + x.2.1.length ≤ l.length ∧ SrtE x.2.1 ∧ (∀ y ∈ x.2.1, okE y ∧ l.find? (fun z => decide (kE z = kE y)) = some y) ∧ Vc.Vec x.2.2 ∧ x.2.2.length ≤ 100 + x.1) (fun x => ⟨110, [(0, .tr l.length (encs envC l)), (5, .ptr 0 0 0), (8, .tr x.2.2.length (encs Vc.veC x.2.2)), (9, .tr x.2.2.length (encs Vc.veC x.2.2)), (45, .v (.int .i64 ((l.length : Int) + 1))), (46, .v (.int .i64 (x.1 : Int)))], [some ⟨false, 0, 1, false, [.sl 1 0 0 x.2.1.length], 0, false⟩, some ⟨true, 36, x.2.1.length, false, encs envC x.2.1, 0, false⟩]⟩) (0, B0, v0) ⟨⟨by simp only; omega, hb.s, fun y hy => ⟨hb.ok y hy, hb.fst y hy⟩, hv0v, by simp only; omega⟩, ?_⟩ ?_
  · (refine Weak.renS [0, 1] hfx rfl ?_ ?_ rfl <;> (simp only [go_sem, reduceIte, exists_eq_left', exists_eq_left, Blk.mk.injEq] <;> (try and_intros) <;> first | rfl | omega))
  rintro ⟨j, B, v⟩ ⟨q1, q2, q3, q4, q5⟩
  simp only at q1 q2 q3 q4 q5 ⊢
  clear hb hbl hv0v hvs hri
  have hB : B.length ≤ 60 := by omega
  rcases rdy_cases v B with hno | ⟨K, e, hK, hre, hno⟩
  rotate_left
  · have hta := take_some B v q4 (by omega) (fun x hx => (q3 x hx).1) (by omega) K e hK hre hno
    have heB := List.mem_of_getElem? hK
    have hKl : K < B.length := (List.getElem?_eq_some_iff.1 hK).1
    obtain ⟨hoe, hfe⟩ := q3 e heB
    have hg := hl e (hmem e hfe)
    have hes := envS_frz e.d e.r e.s e.c e.u e.ops hg.d8 hg.o72 hg.s16
    have hrr := refReady_call e.d v e.r e.s e.c e.u e.ops hoe.1 q4 hoe.2.1 hoe.2.2.1 hoe.2.2.2 (by omega)
    rw [show (decide (Vc.getV v e.r = e.s - 1) && Vc.covV v e.d) = rdyE v e from rfl, hre] at hrr
    have hrw := SCall.frz (Vc.refWith_call v e.r e.s (by omega)) rfl
    have hcw := SCall.frz (Vc.with_call v e.r e.s q4 hoe.2.1 (by have := hoe.2.2.1; omega) (by omega)) rfl
    simp only [frzR] at hrw hcw
    have hwl := Vc.withV_len v q4.s e.r e.s
    have hwv := Vc.withV_vec q4 hoe.2.1 (q := e.s) (by have := hoe.2.2.1; omega)
    have hwo := without_len hKl
    have hws := without_srt q2 K
    have hwm : ∀ y ∈ B.take K ++ B.drop (K + 1), okE y ∧ l.find? (fun z => decide (kE z = kE y)) = some y := fun y hy => q3 y (mem_without hy)
    rw [envC_eq] at hta
    clear q3 hno hK hre heB hmem hl hok
    generalize B.take K ++ B.drop (K + 1) = B2 at *
    generalize Vc.withV v e.r e.s = v2 at *
    repeat' (first | refine WK.seq ?_ | refine WK.reg ?_ | refine IL.nil ?_ | refine WK.skip ?_ | refine WK.block ?_ | refine WK.exit_here ?_ | refine WK.e1 ?_ | refine WK.e2 ?_ | refine WK.drawnS (id := 33) mixed [] [3, 8] [0, 0, 0, 0, 1, 1, 1, 1, 1, 2] [1, 0, 0, 0, 1, 1, 1, 1, 1, 2] (by decide +kernel) ?_ | refine DW.nil ?_ | (with_reducible refine IL.wr ?_ ?_; focus exact cW) | (with_reducible refine DW.wr ?_ ?_; focus exact cW) | refine IL.sg ttok ?_ | refine IL.nn ?_ | refine DW.re ttok ?_ | refine DW.rm ttok ?_ | refine DW.nn ?_ | refine DW.nb ?_ | refine IL.cS ttok ent6 [] true ?_ (hS := by exact anchor11) | refine IL.cS ttok ent7 [.bor] true ?_ (hS := by exact hri) | refine IL.cS ttok ent8 [.bor] true ?_ (hS := by exact hsm) | refine IL.cS ttok ent9 [.own, .bor] false ?_ (hS := by exact hpu) | refine IL.cS ttok ent10 [.bor] false ?_ (hS := by exact hvs) | refine IL.cS ttok ent11 [.own, .bor] false ?_ (hS := by exact hta) | refine IL.cS ttok ent12 [.bor] false ?_ (hS := by exact hes) | refine IL.cS ttok ent13 [.bor, .bor] true ?_ (hS := by exact hrr) | refine IL.cS ttok ent14 [.bor, .bor, .bor] false ?_ (hS := by exact hrw) | refine IL.cS ttok ent15 [.bor, .bor, .bor] false ?_ (hS := by exact hcw) | refine IL.cS ttok ent16 [.own] false ?_ (hS := by exact hna) | refine DW.cS ttok ent17 [.bor] true ?_ (hS := by exact txId_call _ _ _ _ _) | refine DW.cS ttok ent18 [.bor, .bor] true ?_ (hS := by exact hfi) | refine IL.cS ttok ent19 [.bor, .bor] true ?_ (hS := by exact hsv) | ((first | ((first | refine IL.ag (fun h => ?_) (fun h => ?_) | refine DW.ag (fun h => ?_) (fun h => ?_) | refine IL.ap (fun h => ?_) (fun h => ?_) | refine DW.ap (fun h => ?_) (fun h => ?_)); (fail_if_success (focus (simp only [reduceCtorEq] at h)))) | refine WK.cn (fun h => ?_) (fun h => ?_)); all_goals first | (simp only [reduceCtorEq] at h; done) | (simp only [hsA, hsD, hsE, ne_eq] at h; first | done | (exfalso; omega; done) | skip) | skip))
    refine ⟨(j + 1, B2, v2), by simp only; omega, ⟨by simp only; omega, hws, hwm, hwv, by simp only; omega⟩, ?_⟩
    (refine Weak.renS [0, 2] hfx rfl ?_ ?_ rfl <;> (simp only [go_sem, reduceIte, exists_eq_left', exists_eq_left, Blk.mk.injEq] <;> (try and_intros) <;> first | rfl | omega))
  have hta := take_none B v q4 (by omega) (fun x hx => (q3 x hx).1) (by omega) hno
  have hna := SCall.frz (names_call B (by omega)) rfl
  simp only [frzR] at hna
  have hsv := sameV_call v v (by omega)
  rw [decide_eq_true rfl] at hsv
  have hnl : (B.map nmE).length = B.length := List.length_map ..
  have hnm : ∀ (i : Nat) (x : Vc.Ve), (B.map nmE)[i]? = some x → ∃ y ∈ B, nmE y = x := fun i x hx => by
    have := List.mem_of_getElem? hx
    exact List.mem_map.1 this
  rw [← hnl] at hna
  generalize hM : B.map nmE = M at *
  repeat' (first | refine WK.seq ?_ | refine WK.reg ?_ | refine IL.nil ?_ | refine WK.skip ?_ | refine WK.block ?_ | refine WK.exit_here ?_ | refine WK.e1 ?_ | refine WK.e2 ?_ | refine WK.drawnS (id := 33) mixed [] [3, 8] [0, 0, 0, 0, 1, 1, 1, 1, 1, 2] [1, 0, 0, 0, 1, 1, 1, 1, 1, 2] (by decide +kernel) ?_ | refine DW.nil ?_ | (with_reducible refine IL.wr ?_ ?_; focus exact cW) | (with_reducible refine DW.wr ?_ ?_; focus exact cW) | refine IL.sg ttok ?_ | refine IL.nn ?_ | refine DW.re ttok ?_ | refine DW.rm ttok ?_ | refine DW.nn ?_ | refine DW.nb ?_ | refine IL.cS ttok ent6 [] true ?_ (hS := by exact anchor11) | refine IL.cS ttok ent7 [.bor] true ?_ (hS := by exact hri) | refine IL.cS ttok ent8 [.bor] true ?_ (hS := by exact hsm) | refine IL.cS ttok ent9 [.own, .bor] false ?_ (hS := by exact hpu) | refine IL.cS ttok ent10 [.bor] false ?_ (hS := by exact hvs) | refine IL.cS ttok ent11 [.own, .bor] false ?_ (hS := by exact hta) | refine IL.cS ttok ent12 [.bor] false ?_ (hS := by exact hes) | refine IL.cS ttok ent13 [.bor, .bor] true ?_ (hS := by exact hrr) | refine IL.cS ttok ent14 [.bor, .bor, .bor] false ?_ (hS := by exact hrw) | refine IL.cS ttok ent15 [.bor, .bor, .bor] false ?_ (hS := by exact hcw) | refine IL.cS ttok ent16 [.own] false ?_ (hS := by exact hna) | refine DW.cS ttok ent17 [.bor] true ?_ (hS := by exact txId_call _ _ _ _ _) | refine DW.cS ttok ent18 [.bor, .bor] true ?_ (hS := by exact hfi) | refine IL.cS ttok ent19 [.bor, .bor] true ?_ (hS := by exact hsv) | ((first | ((first | refine IL.ag (fun h => ?_) (fun h => ?_) | refine DW.ag (fun h => ?_) (fun h => ?_) | refine IL.ap (fun h => ?_) (fun h => ?_) | refine DW.ap (fun h => ?_) (fun h => ?_)); (fail_if_success (focus (simp only [reduceCtorEq] at h)))) | refine WK.cn (fun h => ?_) (fun h => ?_)); all_goals first | (simp only [reduceCtorEq] at h; done) | (simp only [hsA, hsD, hsE, ne_eq] at h; first | done | (exfalso; omega; done) | skip) | skip))
  refine WK.forS l.length (fun k => True) (fun k => ⟨110, [(0, .tr l.length (encs envC l)), (8, .tr v.length (encs Vc.veC v)), (9, .tr v.length (encs Vc.veC v)), (13, .tr M.length (encs Vc.veC M)), (79, .tr l.length (encs envC l)), (80, .v (.int .i64 l.length)), (81, .v (.int .i64 k))], []⟩) ⟨trivial, ?_⟩ (fun k hk ho => ?_) (fun ho => ?_)
  · (refine Weak.renS [] hfx rfl ?_ ?_ rfl <;> (simp only [go_sem, reduceIte, exists_eq_left', exists_eq_left, Blk.mk.injEq] <;> (try and_intros) <;> first | rfl | omega))
  · have hx : l[k]? = some l[k] := List.getElem?_eq_getElem hk
    have hle : k * 6 + 6 ≤ l.length * 6 := by omega
    have hat : ((encs envC l).drop (k * 6)).take 6 = envC l[k] := encs_at envC_length hx
    have hne : encs envC l ≠ [] := encs_ne envC_length (by decide) hx
    have hg := hl _ (List.getElem_mem hk)
    have hoe := hok _ (List.getElem_mem hk)
    have hes := envS_frz l[k].d l[k].r l[k].s l[k].c l[k].u l[k].ops hg.d8 hg.o72 hg.s16
    have hrr := refReady_call l[k].d v l[k].r l[k].s l[k].c l[k].u l[k].ops hoe.1 q4 hoe.2.1 hoe.2.2.1 hoe.2.2.2 (by omega)
    rw [show (decide (Vc.getV v l[k].r = l[k].s - 1) && Vc.covV v l[k].d) = rdyE v l[k] from rfl] at hrr
    have hfn : rdyE v l[k] = true → ∀ (i : Nat) (x : Vc.Ve), M[i]? = some x → x = (l[k].r, l[k].s) → SCall Try.prog 18 [.tr l.length (encs envC l), .agg (envC l[k])] (.v (.bool false)) [.tr l.length (encs envC l), .agg (envC l[k])] := fun hr i x hx he => by
      obtain ⟨y, hy, hye⟩ := hnm i x hx
      have hky : kE y = kE l[k] := by
        have : nmE y = (l[k].r, l[k].s) := hye.trans he
        unfold nmE at this
        obtain ⟨h1, h2⟩ := Prod.mk.inj this
        unfold kE; rw [h1, h2]
      refine first_no l l[k] (fun x hx => (hl x hx).n) hg.n (by omega) hg.d8 hg.o72 hg.s16 (fun x hx => by have := (hok x hx).2.2.2; omega) fun x hfx hd => ?_
      rw [← hky, (q3 y hy).2] at hfx
      obtain rfl := Option.some.inj hfx
      have h1 := rdyE_same (v := v) (okE_nb (q3 y hy).1) hg.n hky hd
      rw [hno y hy, hr] at h1
      cases h1
    rw [envC_eq] at hat
    simp only [envC_eq] at hfn
    clear hx hoe hg hnm hM
    generalize l[k] = e at *
    by_cases hr : rdyE v e = true
    rotate_left
    · rw [Bool.eq_false_iff.2 hr] at hrr
      have FX := And.intro hat hle
      repeat' (first | refine WK.seq ?_ | refine WK.reg ?_ | refine IL.nil ?_ | refine WK.skip ?_ | refine WK.block ?_ | refine WK.exit_here ?_ | refine WK.e1 ?_ | refine WK.e2 ?_ | refine WK.drawnS (id := 33) mixed [] [3, 8] [0, 0, 0, 0, 1, 1, 1, 1, 1, 2] [1, 0, 0, 0, 1, 1, 1, 1, 1, 2] (by decide +kernel) ?_ | refine DW.nil ?_ | (with_reducible refine IL.wr ?_ ?_; focus exact cW) | (with_reducible refine DW.wr ?_ ?_; focus exact cW) | refine IL.sgF ttok ?_ | refine IL.nn ?_ | refine DW.reF ttok ?_ | refine DW.rmF ttok ?_ | refine DW.nn ?_ | refine DW.nb ?_ | refine IL.cSF ttok ent6 [] true ?_ (hS := by exact anchor11) | refine IL.cSF ttok ent7 [.bor] true ?_ (hS := by exact hri) | refine IL.cSF ttok ent8 [.bor] true ?_ (hS := by exact hsm) | refine IL.cSF ttok ent9 [.own, .bor] false ?_ (hS := by exact hpu) | refine IL.cSF ttok ent10 [.bor] false ?_ (hS := by exact hvs) | refine IL.cSF ttok ent11 [.own, .bor] false ?_ (hS := by exact hta) | refine IL.cSF ttok ent12 [.bor] false ?_ (hS := by exact hes) | refine IL.cSF ttok ent13 [.bor, .bor] true ?_ (hS := by exact hrr) | refine IL.cSF ttok ent14 [.bor, .bor, .bor] false ?_ (hS := by exact hrw) | refine IL.cSF ttok ent15 [.bor, .bor, .bor] false ?_ (hS := by exact hcw) | refine IL.cSF ttok ent16 [.own] false ?_ (hS := by exact hna) | refine DW.cSF ttok ent17 [.bor] true ?_ (hS := by exact txId_call _ _ _ _ _) | refine DW.cSF ttok ent18 [.bor, .bor] true ?_ (hS := by exact hfi) | refine IL.cSF ttok ent19 [.bor, .bor] true ?_ (hS := by exact hsv) | ((first | ((first | refine IL.ag (fun h => ?_) (fun h => ?_) | refine DW.ag (fun h => ?_) (fun h => ?_) | refine IL.ap (fun h => ?_) (fun h => ?_) | refine DW.ap (fun h => ?_) (fun h => ?_)); (fail_if_success (focus (simp only [reduceCtorEq] at h)))) | refine WK.cn (fun h => ?_) (fun h => ?_)); all_goals first | (simp only [reduceCtorEq] at h; done) | (simp only [hsA, hsD, hsE, ne_eq] at h; first | done | (exfalso; omega; done) | skip) | skip))
      refine ⟨trivial, ?_⟩
      (refine Weak.renS [] hfx rfl ?_ ?_ rfl <;> (simp only [go_sem, reduceIte, exists_eq_left', exists_eq_left, Blk.mk.injEq] <;> (try and_intros) <;> first | rfl | omega))
    rw [hr] at hrr
    have hfn := hfn hr
    have FX := And.intro hat hle
    repeat' (first | refine WK.seq ?_ | refine WK.reg ?_ | refine IL.nil ?_ | refine WK.skip ?_ | refine WK.block ?_ | refine WK.exit_here ?_ | refine WK.e1 ?_ | refine WK.e2 ?_ | refine WK.drawnS (id := 33) mixed [] [3, 8] [0, 0, 0, 0, 1, 1, 1, 1, 1, 2] [1, 0, 0, 0, 1, 1, 1, 1, 1, 2] (by decide +kernel) ?_ | refine DW.nil ?_ | (with_reducible refine IL.wr ?_ ?_; focus exact cW) | (with_reducible refine DW.wr ?_ ?_; focus exact cW) | refine IL.sgF ttok ?_ | refine IL.nn ?_ | refine DW.reF ttok ?_ | refine DW.rmF ttok ?_ | refine DW.nn ?_ | refine DW.nb ?_ | refine IL.cSF ttok ent6 [] true ?_ (hS := by exact anchor11) | refine IL.cSF ttok ent7 [.bor] true ?_ (hS := by exact hri) | refine IL.cSF ttok ent8 [.bor] true ?_ (hS := by exact hsm) | refine IL.cSF ttok ent9 [.own, .bor] false ?_ (hS := by exact hpu) | refine IL.cSF ttok ent10 [.bor] false ?_ (hS := by exact hvs) | refine IL.cSF ttok ent11 [.own, .bor] false ?_ (hS := by exact hta) | refine IL.cSF ttok ent12 [.bor] false ?_ (hS := by exact hes) | refine IL.cSF ttok ent13 [.bor, .bor] true ?_ (hS := by exact hrr) | refine IL.cSF ttok ent14 [.bor, .bor, .bor] false ?_ (hS := by exact hrw) | refine IL.cSF ttok ent15 [.bor, .bor, .bor] false ?_ (hS := by exact hcw) | refine IL.cSF ttok ent16 [.own] false ?_ (hS := by exact hna) | refine DW.cSF ttok ent17 [.bor] true ?_ (hS := by exact txId_call _ _ _ _ _) | refine DW.cSF ttok ent18 [.bor, .bor] true ?_ (hS := by exact hfi) | refine IL.cSF ttok ent19 [.bor, .bor] true ?_ (hS := by exact hsv) | ((first | ((first | refine IL.ag (fun h => ?_) (fun h => ?_) | refine DW.ag (fun h => ?_) (fun h => ?_) | refine IL.ap (fun h => ?_) (fun h => ?_) | refine DW.ap (fun h => ?_) (fun h => ?_)); (fail_if_success (focus (simp only [reduceCtorEq] at h)))) | refine WK.cn (fun h => ?_) (fun h => ?_)); all_goals first | (simp only [reduceCtorEq] at h; done) | (simp only [hsA, hsD, hsE, ne_eq] at h; first | done | (exfalso; omega; done) | skip) | skip))
    refine WK.forS M.length (fun i => True) (fun i => ⟨110, [(0, .tr l.length (encs envC l)), (8, .tr v.length (encs Vc.veC v)), (9, .tr v.length (encs Vc.veC v)), (13, .tr M.length (encs Vc.veC M)), (15, .ptr 0 0 0), (79, .tr l.length (encs envC l)), (80, .v (.int .i64 l.length)), (81, .v (.int .i64 k)), (89, .tr M.length (encs Vc.veC M)), (90, .v (.int .i64 M.length)), (91, .v (.int .i64 i))], [some ⟨false, 0, 1, false, enT e.d e.r e.s e.c e.u e.ops, 0, false⟩]⟩) ⟨trivial, ?_⟩ (fun i hi _ => ?_) (fun _ => ?_)
    · (refine Weak.renS [2] hfx rfl ?_ ?_ rfl <;> (simp only [go_sem, reduceIte, exists_eq_left', exists_eq_left, Blk.mk.injEq, enT, enL] <;> (try and_intros) <;> first | rfl | omega))
    · have hx : M[i]? = some M[i] := List.getElem?_eq_getElem hi
      have hli : i * 2 + 2 ≤ M.length * 2 := by omega
      have hati : ((encs Vc.veC M).drop (i * 2)).take 2 = [.v (.int .u16 M[i].1), .v (.int .u32 M[i].2)] := encs_at Vc.veC_length hx
      have hnei : encs Vc.veC M ≠ [] := encs_ne Vc.veC_length (by decide) hx
      have hfn := hfn i _ hx
      clear hx
      generalize M[i] = x at *
      obtain ⟨x1, x2⟩ := x
      by_cases hid : x1 = e.r ∧ x2 = e.s
      · obtain ⟨rfl, rfl⟩ := hid
        have hfi := hfn rfl
        have FX := And.intro hati hli
        repeat' (first | refine WK.seq ?_ | refine WK.reg ?_ | refine IL.nil ?_ | refine WK.skip ?_ | refine WK.block ?_ | refine WK.exit_here ?_ | refine WK.e1 ?_ | refine WK.e2 ?_ | refine WK.drawnS (id := 33) mixed [] [3, 8] [0, 0, 0, 0, 1, 1, 1, 1, 1, 2] [1, 0, 0, 0, 1, 1, 1, 1, 1, 2] (by decide +kernel) ?_ | refine DW.nil ?_ | (with_reducible refine IL.wr ?_ ?_; focus exact cW) | (with_reducible refine DW.wr ?_ ?_; focus exact cW) | refine IL.sgF ttok ?_ | refine IL.nn ?_ | refine DW.reF ttok ?_ | refine DW.rmF ttok ?_ | refine DW.nn ?_ | refine DW.nb ?_ | refine IL.cSF ttok ent6 [] true ?_ (hS := by exact anchor11) | refine IL.cSF ttok ent7 [.bor] true ?_ (hS := by exact hri) | refine IL.cSF ttok ent8 [.bor] true ?_ (hS := by exact hsm) | refine IL.cSF ttok ent9 [.own, .bor] false ?_ (hS := by exact hpu) | refine IL.cSF ttok ent10 [.bor] false ?_ (hS := by exact hvs) | refine IL.cSF ttok ent11 [.own, .bor] false ?_ (hS := by exact hta) | refine IL.cSF ttok ent12 [.bor] false ?_ (hS := by exact hes) | refine IL.cSF ttok ent13 [.bor, .bor] true ?_ (hS := by exact hrr) | refine IL.cSF ttok ent14 [.bor, .bor, .bor] false ?_ (hS := by exact hrw) | refine IL.cSF ttok ent15 [.bor, .bor, .bor] false ?_ (hS := by exact hcw) | refine IL.cSF ttok ent16 [.own] false ?_ (hS := by exact hna) | refine DW.cSF ttok ent17 [.bor] true ?_ (hS := by exact txId_call _ _ _ _ _) | refine DW.cSF ttok ent18 [.bor, .bor] true ?_ (hS := by exact hfi) | refine IL.cSF ttok ent19 [.bor, .bor] true ?_ (hS := by exact hsv) | ((first | ((first | refine IL.ag (fun h => ?_) (fun h => ?_) | refine DW.ag (fun h => ?_) (fun h => ?_) | refine IL.ap (fun h => ?_) (fun h => ?_) | refine DW.ap (fun h => ?_) (fun h => ?_)); (fail_if_success (focus (simp only [reduceCtorEq] at h)))) | refine WK.cn (fun h => ?_) (fun h => ?_)); all_goals first | (simp only [reduceCtorEq] at h; done) | (simp only [hsA, hsD, hsE, ne_eq] at h; first | done | (exfalso; omega; done) | skip) | skip))
        all_goals try ((first | refine WK.ret ⟨.inr rfl, ?_⟩ | refine ⟨.inl rfl, ?_⟩ | refine ⟨.inl trivial, ?_⟩); refine Fin.o ?_ ?_ (h1 := by first | rfl | (simp only [go_sem, show Try.f3.results.toList = [.tmp 4] from rfl, reduceIte] <;> rfl)); rotate_left 1; (focus (first | rfl | skip)); all_goals try with_reducible rfl)
        refine ⟨trivial, ?_⟩
        (refine Weak.renS [0] hfx rfl ?_ ?_ rfl <;> (simp only [go_sem, reduceIte, exists_eq_left', exists_eq_left, Blk.mk.injEq, enT, enL] <;> (try and_intros) <;> first | rfl | omega))
      · simp only at hati
        have FX := And.intro hati hli
        repeat' (first | refine WK.seq ?_ | refine WK.reg ?_ | refine IL.nil ?_ | refine WK.skip ?_ | refine WK.block ?_ | refine WK.exit_here ?_ | refine WK.e1 ?_ | refine WK.e2 ?_ | refine WK.drawnS (id := 33) mixed [] [3, 8] [0, 0, 0, 0, 1, 1, 1, 1, 1, 2] [1, 0, 0, 0, 1, 1, 1, 1, 1, 2] (by decide +kernel) ?_ | refine DW.nil ?_ | (with_reducible refine IL.wr ?_ ?_; focus exact cW) | (with_reducible refine DW.wr ?_ ?_; focus exact cW) | refine IL.sgF ttok ?_ | refine IL.nn ?_ | refine DW.reF ttok ?_ | refine DW.rmF ttok ?_ | refine DW.nn ?_ | refine DW.nb ?_ | refine IL.cSF ttok ent6 [] true ?_ (hS := by exact anchor11) | refine IL.cSF ttok ent7 [.bor] true ?_ (hS := by exact hri) | refine IL.cSF ttok ent8 [.bor] true ?_ (hS := by exact hsm) | refine IL.cSF ttok ent9 [.own, .bor] false ?_ (hS := by exact hpu) | refine IL.cSF ttok ent10 [.bor] false ?_ (hS := by exact hvs) | refine IL.cSF ttok ent11 [.own, .bor] false ?_ (hS := by exact hta) | refine IL.cSF ttok ent12 [.bor] false ?_ (hS := by exact hes) | refine IL.cSF ttok ent13 [.bor, .bor] true ?_ (hS := by exact hrr) | refine IL.cSF ttok ent14 [.bor, .bor, .bor] false ?_ (hS := by exact hrw) | refine IL.cSF ttok ent15 [.bor, .bor, .bor] false ?_ (hS := by exact hcw) | refine IL.cSF ttok ent16 [.own] false ?_ (hS := by exact hna) | refine DW.cSF ttok ent17 [.bor] true ?_ (hS := by exact txId_call _ _ _ _ _) | refine DW.cSF ttok ent18 [.bor, .bor] true ?_ (hS := by exact hfi) | refine IL.cSF ttok ent19 [.bor, .bor] true ?_ (hS := by exact hsv) | ((first | ((first | refine IL.ag (fun h => ?_) (fun h => ?_) | refine DW.ag (fun h => ?_) (fun h => ?_) | refine IL.ap (fun h => ?_) (fun h => ?_) | refine DW.ap (fun h => ?_) (fun h => ?_)); (fail_if_success (focus (simp only [reduceCtorEq] at h)))) | refine WK.cn (fun h => ?_) (fun h => ?_)); all_goals first | (simp only [reduceCtorEq] at h; done) | (simp only [hsA, hsD, hsE, ne_eq] at h; first | done | (exfalso; omega; done) | skip) | skip))
        all_goals try ((first | refine WK.ret ⟨.inr rfl, ?_⟩ | refine ⟨.inl rfl, ?_⟩ | refine ⟨.inl trivial, ?_⟩); refine Fin.o ?_ ?_ (h1 := by first | rfl | (simp only [go_sem, show Try.f3.results.toList = [.tmp 4] from rfl, reduceIte] <;> rfl)); rotate_left 1; (focus (first | rfl | skip)); all_goals try with_reducible rfl)
        refine ⟨trivial, ?_⟩
        (refine Weak.renS [0] hfx rfl ?_ ?_ rfl <;> (simp only [go_sem, reduceIte, exists_eq_left', exists_eq_left, Blk.mk.injEq, enT, enL] <;> (try and_intros) <;> first | rfl | omega))
    · repeat' (first | refine WK.seq ?_ | refine WK.reg ?_ | refine IL.nil ?_ | refine WK.skip ?_ | refine WK.block ?_ | refine WK.exit_here ?_ | refine WK.e1 ?_ | refine WK.e2 ?_ | refine WK.drawnS (id := 33) mixed [] [3, 8] [0, 0, 0, 0, 1, 1, 1, 1, 1, 2] [1, 0, 0, 0, 1, 1, 1, 1, 1, 2] (by decide +kernel) ?_ | refine DW.nil ?_ | (with_reducible refine IL.wr ?_ ?_; focus exact cW) | (with_reducible refine DW.wr ?_ ?_; focus exact cW) | refine IL.sg ttok ?_ | refine IL.nn ?_ | refine DW.re ttok ?_ | refine DW.rm ttok ?_ | refine DW.nn ?_ | refine DW.nb ?_ | refine IL.cS ttok ent6 [] true ?_ (hS := by exact anchor11) | refine IL.cS ttok ent7 [.bor] true ?_ (hS := by exact hri) | refine IL.cS ttok ent8 [.bor] true ?_ (hS := by exact hsm) | refine IL.cS ttok ent9 [.own, .bor] false ?_ (hS := by exact hpu) | refine IL.cS ttok ent10 [.bor] false ?_ (hS := by exact hvs) | refine IL.cS ttok ent11 [.own, .bor] false ?_ (hS := by exact hta) | refine IL.cS ttok ent12 [.bor] false ?_ (hS := by exact hes) | refine IL.cS ttok ent13 [.bor, .bor] true ?_ (hS := by exact hrr) | refine IL.cS ttok ent14 [.bor, .bor, .bor] false ?_ (hS := by exact hrw) | refine IL.cS ttok ent15 [.bor, .bor, .bor] false ?_ (hS := by exact hcw) | refine IL.cS ttok ent16 [.own] false ?_ (hS := by exact hna) | refine DW.cS ttok ent17 [.bor] true ?_ (hS := by exact txId_call _ _ _ _ _) | refine DW.cS ttok ent18 [.bor, .bor] true ?_ (hS := by exact hfi) | refine IL.cS ttok ent19 [.bor, .bor] true ?_ (hS := by exact hsv) | ((first | ((first | refine IL.ag (fun h => ?_) (fun h => ?_) | refine DW.ag (fun h => ?_) (fun h => ?_) | refine IL.ap (fun h => ?_) (fun h => ?_) | refine DW.ap (fun h => ?_) (fun h => ?_)); (fail_if_success (focus (simp only [reduceCtorEq] at h)))) | refine WK.cn (fun h => ?_) (fun h => ?_)); all_goals first | (simp only [reduceCtorEq] at h; done) | (simp only [hsA, hsD, hsE, ne_eq] at h; first | done | (exfalso; omega; done) | skip) | skip))
      refine ⟨trivial, ?_⟩
      (refine Weak.renS [] hfx rfl ?_ ?_ rfl <;> (simp only [go_sem, reduceIte, exists_eq_left', exists_eq_left, Blk.mk.injEq] <;> (try and_intros) <;> first | rfl | omega))
  · repeat' (first | refine WK.seq ?_ | refine WK.reg ?_ | refine IL.nil ?_ | refine WK.skip ?_ | refine WK.block ?_ | refine WK.exit_here ?_ | refine WK.e1 ?_ | refine WK.e2 ?_ | refine WK.drawnS (id := 33) mixed [] [3, 8] [0, 0, 0, 0, 1, 1, 1, 1, 1, 2] [1, 0, 0, 0, 1, 1, 1, 1, 1, 2] (by decide +kernel) ?_ | refine DW.nil ?_ | (with_reducible refine IL.wr ?_ ?_; focus exact cW) | (with_reducible refine DW.wr ?_ ?_; focus exact cW) | refine IL.sg ttok ?_ | refine IL.nn ?_ | refine DW.re ttok ?_ | refine DW.rm ttok ?_ | refine DW.nn ?_ | refine DW.nb ?_ | refine IL.cS ttok ent6 [] true ?_ (hS := by exact anchor11) | refine IL.cS ttok ent7 [.bor] true ?_ (hS := by exact hri) | refine IL.cS ttok ent8 [.bor] true ?_ (hS := by exact hsm) | refine IL.cS ttok ent9 [.own, .bor] false ?_ (hS := by exact hpu) | refine IL.cS ttok ent10 [.bor] false ?_ (hS := by exact hvs) | refine IL.cS ttok ent11 [.own, .bor] false ?_ (hS := by exact hta) | refine IL.cS ttok ent12 [.bor] false ?_ (hS := by exact hes) | refine IL.cS ttok ent13 [.bor, .bor] true ?_ (hS := by exact hrr) | refine IL.cS ttok ent14 [.bor, .bor, .bor] false ?_ (hS := by exact hrw) | refine IL.cS ttok ent15 [.bor, .bor, .bor] false ?_ (hS := by exact hcw) | refine IL.cS ttok ent16 [.own] false ?_ (hS := by exact hna) | refine DW.cS ttok ent17 [.bor] true ?_ (hS := by exact txId_call _ _ _ _ _) | refine DW.cS ttok ent18 [.bor, .bor] true ?_ (hS := by exact hfi) | refine IL.cS ttok ent19 [.bor, .bor] true ?_ (hS := by exact hsv) | ((first | ((first | refine IL.ag (fun h => ?_) (fun h => ?_) | refine DW.ag (fun h => ?_) (fun h => ?_) | refine IL.ap (fun h => ?_) (fun h => ?_) | refine DW.ap (fun h => ?_) (fun h => ?_)); (fail_if_success (focus (simp only [reduceCtorEq] at h)))) | refine WK.cn (fun h => ?_) (fun h => ?_)); all_goals first | (simp only [reduceCtorEq] at h; done) | (simp only [hsA, hsD, hsE, ne_eq] at h; first | done | (exfalso; omega; done) | skip) | skip))
    all_goals try ((first | refine WK.ret ⟨.inr rfl, ?_⟩ | refine ⟨.inl rfl, ?_⟩ | refine ⟨.inl trivial, ?_⟩); refine Fin.o ?_ ?_ (h1 := by first | rfl | (simp only [go_sem, show Try.f3.results.toList = [.tmp 4] from rfl, reduceIte] <;> rfl)); rotate_left 1; (focus (first | rfl | skip)); all_goals try with_reducible rfl)
    all_goals skip
end Go.Proofs.Ytclhjcbnpdlgbaa
/- what any row of envelopes is. -/
namespace Go.Proofs.Ytclhjcbnpdlgbaa
open Go Go.Lift Go.ChangeShapes Go.WideShapes Go.RowKit
set_option linter.unusedVariables false
theorem ops_of {x : IV} (h : Ty (.row [.int .i64, .int .u16, .int .u32, .int .u32, .str, .row [.int .u16, .int .u32, .int .i64], .int .u32]) x) : ∃ ops : List OpV, x = .tr ops.length (encs opC ops) ∧ ∀ o ∈ ops, (wfC o ∧ (0 ≤ o.r ∧ o.r ≤ 65535) ∧ ∀ x ∈ o.s, 0 ≤ x.1 ∧ x.1 ≤ 65535) ∧ o.t.length ≤ 9223372036854775807 ∧ o.s.length ≤ 9223372036854775807 := by
  obtain ⟨l, h1, _, h3⟩ := row_of (f := opC) (good := fun o => (wfC o ∧ (0 ≤ o.r ∧ o.r ≤ 65535) ∧ ∀ x ∈ o.s, 0 ≤ x.1 ∧ x.1 ≤ 65535) ∧ o.t.length ≤ 9223372036854775807 ∧ o.s.length ≤ 9223372036854775807) (fun c h1 => by
    obtain ⟨y1, ys1, rfl, a1, h1⟩ := h1.cons_inv
    obtain ⟨y2, ys2, rfl, a2, h1⟩ := h1.cons_inv
    obtain ⟨y3, ys3, rfl, a3, h1⟩ := h1.cons_inv
    obtain ⟨y4, ys4, rfl, a4, h1⟩ := h1.cons_inv
    obtain ⟨y5, ys5, rfl, a5, h1⟩ := h1.cons_inv
    obtain ⟨y6, ys6, rfl, a6, h1⟩ := h1.cons_inv
    obtain ⟨y7, ys7, rfl, a7, h1⟩ := h1.cons_inv
    obtain rfl := h1.nil_inv
    obtain ⟨k, rfl, w1⟩ := a1.int_inv
    obtain ⟨r, rfl, w2⟩ := a2.int_inv
    obtain ⟨n, rfl, w3⟩ := a3.int_inv
    obtain ⟨m, rfl, w4⟩ := a4.int_inv
    obtain ⟨t, rfl, w5⟩ := a5.str_inv
    obtain ⟨q, rfl, w7⟩ := a7.int_inv
    obtain ⟨l, rfl, hl, hg⟩ := row_of (f := spC) (good := fun s => ((0 ≤ s.2.1 ∧ s.2.1 ≤ 4294967295) ∧ (-9223372036854775808 ≤ s.2.2 ∧ s.2.2 ≤ 9223372036854775807)) ∧ (0 ≤ s.1 ∧ s.1 ≤ 65535)) (fun c hc => by
      obtain ⟨y1, ys1, rfl, a1, hc⟩ := hc.cons_inv
      obtain ⟨y2, ys2, rfl, a2, hc⟩ := hc.cons_inv
      obtain ⟨y3, ys3, rfl, a3, hc⟩ := hc.cons_inv
      obtain rfl := hc.nil_inv
      obtain ⟨r, rfl, w1⟩ := a1.int_inv
      obtain ⟨n, rfl, w2⟩ := a2.int_inv
      obtain ⟨k, rfl, w3⟩ := a3.int_inv
      exact ⟨(r, n, k), rfl, ⟨wf_u32 w2, wf_i64 w3⟩, wf_u16 w1⟩) a6
    refine ⟨⟨k, r, n, m, t.data.toList, l, q⟩, by rw [ba_eta t]; rfl, ⟨⟨(wf_u32 w3).1, wf_u32 w4, wf_u32 w7, fun x hx => (hg x hx).1⟩, wf_u16 w2, fun x hx => (hg x hx).2⟩, ?_, ?_⟩
    · unfold Go.maxLen at w5; simpa using w5
    · unfold Go.maxLen at hl; exact (by omega : l.length ≤ 9223372036854775807)) h
  exact ⟨l, h1, h3⟩
theorem deps_of {x : IV} (h : Ty (.row [.int .u16, .int .u32]) x) : ∃ d : List Vc.Ve, x = .tr d.length (encs Vc.veC d) ∧ d.length ≤ 9223372036854775807 ∧ wfD d := by
  obtain ⟨l, h1, h2, h3⟩ := row_of (f := Vc.veC) (good := fun s => (0 ≤ s.1 ∧ s.1 ≤ 65535) ∧ (0 ≤ s.2 ∧ s.2 ≤ 4294967295)) (fun c hc => by
    obtain ⟨y1, ys1, rfl, a1, hc⟩ := hc.cons_inv
    obtain ⟨y2, ys2, rfl, a2, hc⟩ := hc.cons_inv
    obtain rfl := hc.nil_inv
    obtain ⟨r, rfl, w1⟩ := a1.int_inv
    obtain ⟨n, rfl, w2⟩ := a2.int_inv
    exact ⟨(r, n), rfl, wf_u16 w1, wf_u32 w2⟩) h
  exact ⟨l, h1, by unfold Go.maxLen at h2; omega, h3⟩
theorem envs_of {x : IV} (h : Ty (.row [.row [.int .u16, .int .u32], .int .u16, .int .u32, .int .u64, .int .i64, .row [.int .i64, .int .u16, .int .u32, .int .u32, .str, .row [.int .u16, .int .u32, .int .i64], .int .u32]]) x) :
    ∃ l : List EnV, x = .tr l.length (encs envC l) ∧ l.length ≤ 9223372036854775807 ∧ ∀ e ∈ l, wfD e.d ∧ nb e ∧ ∀ o ∈ e.ops, (wfC o ∧ (0 ≤ o.r ∧ o.r ≤ 65535) ∧ ∀ x ∈ o.s, 0 ≤ x.1 ∧ x.1 ≤ 65535) ∧ o.t.length ≤ 9223372036854775807 ∧ o.s.length ≤ 9223372036854775807 := by
  obtain ⟨l, h1, h2, h3⟩ := row_of (f := envC) (good := fun e => wfD e.d ∧ nb e ∧ ∀ o ∈ e.ops, (wfC o ∧ (0 ≤ o.r ∧ o.r ≤ 65535) ∧ ∀ x ∈ o.s, 0 ≤ x.1 ∧ x.1 ≤ 65535) ∧ o.t.length ≤ 9223372036854775807 ∧ o.s.length ≤ 9223372036854775807) (fun c h1 => by
    obtain ⟨y0, ys0, rfl, a0, h1⟩ := h1.cons_inv
    obtain ⟨y1, ys1, rfl, a1, h1⟩ := h1.cons_inv
    obtain ⟨y2, ys2, rfl, a2, h1⟩ := h1.cons_inv
    obtain ⟨y3, ys3, rfl, a3, h1⟩ := h1.cons_inv
    obtain ⟨y4, ys4, rfl, a4, h1⟩ := h1.cons_inv
    obtain ⟨y5, ys5, rfl, a5, h1⟩ := h1.cons_inv
    obtain rfl := h1.nil_inv
    obtain ⟨d, rfl, hdl, hdw⟩ := deps_of a0
    obtain ⟨r, rfl, w1⟩ := a1.int_inv
    obtain ⟨s, rfl, w2⟩ := a2.int_inv
    obtain ⟨c, rfl, w3⟩ := a3.int_inv
    obtain ⟨u, rfl, w4⟩ := a4.int_inv
    obtain ⟨ops, rfl, hg⟩ := ops_of a5
    exact ⟨⟨d, r, s, c, u, ops⟩, rfl, hdw, ⟨wf_u16 w1, wf_u32 w2⟩, hg⟩) h
  exact ⟨l, h1, by unfold Go.maxLen at h2; omega, h3⟩
theorem envs_ge {l : List EnV} (hg : ∀ e ∈ l, wfD e.d ∧ nb e ∧ ∀ o ∈ e.ops, (wfC o ∧ (0 ≤ o.r ∧ o.r ≤ 65535) ∧ ∀ x ∈ o.s, 0 ≤ x.1 ∧ x.1 ≤ 65535) ∧ o.t.length ≤ 9223372036854775807 ∧ o.s.length ≤ 9223372036854775807)
    (hz : ∀ i, i < l.length → Szl [.row 8 [.no, .no], .no, .no, .no, .no, .row 72 [.no, .no, .no, .no, .no, .row 16 [.no, .no, .no], .no]] (((encs envC l).drop (i * 6)).take 6)) : ∀ e ∈ l, GE e := fun e he => by
  obtain ⟨g1, g2, g3⟩ := hg e he
  obtain ⟨i, hi, rfl⟩ := List.mem_iff_getElem.1 he
  have h2 := hz i hi
  rw [encs_at envC_length (List.getElem?_eq_getElem hi)] at h2
  simp only [envC, enL, Szl, Sz] at h2
  have hb : reachBytes = 140737488351232 := rfl
  have k1 := (h2.1 _ _ rfl).1
  have k2 := h2.2.2.2.2.2.1 _ _ rfl
  rw [hb] at k1 k2
  refine ⟨g1, g2, fun o ho => (g3 o ho).1.1, by omega, by omega, fun o ho => ?_, fun o ho => (g3 o ho).2⟩
  obtain ⟨j, hj, rfl⟩ := List.mem_iff_getElem.1 ho
  have k3 := k2.2 j hj
  rw [show (([.no, .no, .no, .no, .no, .row 16 [.no, .no, .no], .no] : List WSh).length) = 7 from rfl, encs_at opC_length (List.getElem?_eq_getElem hj)] at k3
  simp only [opC, opL, Szl, Sz] at k3
  have := (k3.2.2.2.2.2.1 _ _ rfl).1
  omega
end Go.Proofs.Ytclhjcbnpdlgbaa
