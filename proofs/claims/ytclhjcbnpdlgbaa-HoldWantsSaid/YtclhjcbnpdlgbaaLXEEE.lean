import Derived.Test.YtclhjcbnpdlgbaaLXEJM
import Derived.Test.YtclhjcbnpdlgbaaLA3
set_option linter.unusedVariables false
set_option linter.unusedSimpArgs false
/- Envelopes and vectors as the document has them, for several layers. -/
namespace Go.Proofs.Ytclhjcbnpdlgbaa
open Go Go.Lift
set_option maxHeartbeats 4000000
set_option linter.unusedSimpArgs false
set_option linter.unusedVariables false
attribute [local irreducible] WK IL IP IG IW DW

def wfC (o : OpV) : Prop := 0 ≤ o.n ∧ (0 ≤ o.m ∧ o.m ≤ 4294967295) ∧ (0 ≤ o.q ∧ o.q ≤ 4294967295) ∧ ∀ x ∈ o.s, (0 ≤ x.2.1 ∧ x.2.1 ≤ 4294967295) ∧ (-9223372036854775808 ≤ x.2.2 ∧ x.2.2 ≤ 9223372036854775807)
abbrev enL (dx : IV) (r s c u : Int) (ox : IV) : List IV := [dx, .v (.int .u16 r), .v (.int .u32 s), .v (.int .u64 c), .v (.int .i64 u), ox]
abbrev enT (d : List Vc.Ve) (r s c u : Int) (ops : List OpV) : List IV := enL (.tr d.length (encs Vc.veC d)) r s c u (.tr ops.length (encs opC ops))
open Classical in
noncomputable def fit10 (d : List Vc.Ve) (r s c u : Int) (ops : List OpV) : Int := if Vc.rightB d = true ∧ Vc.getV d r = 0 then fit9 s c u ops else 11
theorem fit10_ok {d : List Vc.Ve} {r s c u : Int} {ops : List OpV} (h : fit10 d r s c u ops = 0) : Vc.rightB d = true ∧ Vc.getV d r = 0 ∧ fit9 s c u ops = 0 := by
  unfold fit10 at h
  split at h
  · rename_i h1; exact ⟨h1.1, h1.2, h⟩
  · cases h
def wfD (d : List Vc.Ve) : Prop := ∀ x ∈ d, (0 ≤ x.1 ∧ x.1 ≤ 65535) ∧ (0 ≤ x.2 ∧ x.2 ≤ 4294967295)
theorem rFit10_call (d : List Vc.Ve) (r s c u : Int) (ops : List OpV) (hd : d.length ≤ 100000) (hw : wfD d) (hl : ops.length ≤ 40) (hsz : ∀ o ∈ ops, o.t.length ≤ 1000 ∧ o.s.length ≤ 1024) (hwo : ∀ o ∈ ops, wfC o) :
    SCall Try.prog 34 [.agg (enT d r s c u ops)] (.v (.int .i64 (fit10 d r s c u ops))) [.agg (enT d r s c u ops)] := by
  have hrr := Vc.refRight_call d (by omega) (fun x hx => (hw x hx).1)
  have hf9 := fit9_call r s c u ops ops.length rfl hl (fun o ho => by
    have h1 := hsz o ho
    have h2 := hwo o ho
    unfold wfC at h2
    exact ⟨h1.1, h1.2, h2.1, h2.2.2.1.1, h2.2.1.1, h2.2.1.2⟩)
  unfold fit10
  by_cases h1 : Vc.rightB d = true
  · have hrg := Vc.refGet_call d r (Vc.rightB_inv h1).1 (by omega)
    rw [h1] at hrr
    by_cases h2 : Vc.getV d r = 0
    · rw [if_pos ⟨h1, h2⟩]
      rw [h2] at hrg
      generalize fit9 s c u ops = e at *
      refine SCall.of_body' (TT := TT) (fun _ => false) [false] ttok Try.func34 rfl (Nat.le_of_ble_eq_true rfl) rfl fun fx hfx => WK.top ?_
      simp only [impl, imp, argT, List.append_nil, List.map_nil, List.nil_append, show Try.f34.ntmps = 19 from rfl, Nat.zero_add, Nat.reduceAdd]
      repeat' (first | refine WK.seq ?_ | refine WK.reg ?_ | refine IL.nil ?_ | refine WK.skip ?_ | (with_reducible refine IL.wr ?_ ?_; focus exact cW) | refine IL.sg ttok ?_ | refine IL.nn ?_ | refine IL.cS ttok ent21 [.bor, .bor] true ?_ (hS := by exact hrg) | refine IL.cS ttok ent32 [.bor] true ?_ (hS := by exact hrr) | refine IL.cS ttok ent55 [.bor] true ?_ (hS := by exact hf9) | ((first | ((first | refine IL.ag (fun h => ?_) (fun h => ?_) | refine IL.ap (fun h => ?_) (fun h => ?_)); (fail_if_success (focus (simp only [reduceCtorEq] at h)))) | refine WK.cn (fun h => ?_) (fun h => ?_)); all_goals first | (simp only [reduceCtorEq] at h; done) | (simp only [hsA, hsD, hsE, ne_eq] at h; first | done | (exfalso; omega; done) | skip) | skip))
      all_goals try ((first | refine WK.ret ⟨.inr rfl, ?_⟩ | refine ⟨.inl rfl, ?_⟩ | refine ⟨.inl trivial, ?_⟩); refine Fin.o ?_ ?_ (h1 := by first | rfl | (simp only [go_sem, show Try.f34.results.toList = [.tmp 2] from rfl, reduceIte] <;> rfl)); rotate_left 1; (focus (first | rfl | skip)); all_goals try with_reducible rfl)
      all_goals skip
    · rw [if_neg (fun h => h2 h.2)]
      have hb : (Vc.getV d r != 0) = true := by simpa using h2
      generalize Vc.getV d r = g at *
      refine SCall.of_body' (TT := TT) (fun _ => false) [false] ttok Try.func34 rfl (Nat.le_of_ble_eq_true rfl) rfl fun fx hfx => WK.top ?_
      simp only [impl, imp, argT, List.append_nil, List.map_nil, List.nil_append, show Try.f34.ntmps = 19 from rfl, Nat.zero_add, Nat.reduceAdd]
      have FX := hb
      repeat' (first | refine WK.seq ?_ | refine WK.reg ?_ | refine IL.nil ?_ | refine WK.skip ?_ | (with_reducible refine IL.wr ?_ ?_; focus exact cW) | refine IL.sgF ttok ?_ | refine IL.nn ?_ | refine IL.cSF ttok ent21 [.bor, .bor] true ?_ (hS := by exact hrg) | refine IL.cSF ttok ent32 [.bor] true ?_ (hS := by exact hrr) | refine IL.cSF ttok ent55 [.bor] true ?_ (hS := by exact hf9) | ((first | ((first | refine IL.ag (fun h => ?_) (fun h => ?_) | refine IL.ap (fun h => ?_) (fun h => ?_)); (fail_if_success (focus (simp only [reduceCtorEq] at h)))) | refine WK.cn (fun h => ?_) (fun h => ?_)); all_goals first | (simp only [reduceCtorEq] at h; done) | (simp only [hsA, hsD, hsE, ne_eq] at h; first | done | (exfalso; omega; done) | skip) | skip))
      all_goals try ((first | refine WK.ret ⟨.inr rfl, ?_⟩ | refine ⟨.inl rfl, ?_⟩ | refine ⟨.inl trivial, ?_⟩); refine Fin.o ?_ ?_ (h1 := by first | rfl | (simp only [go_sem, show Try.f34.results.toList = [.tmp 2] from rfl, reduceIte] <;> rfl)); rotate_left 1; (focus (first | rfl | skip)); all_goals try with_reducible rfl)
      all_goals skip
  · rw [if_neg (fun h => h1 h.1)]
    rw [Bool.eq_false_iff.2 h1] at hrr
    refine SCall.of_body' (TT := TT) (fun _ => false) [false] ttok Try.func34 rfl (Nat.le_of_ble_eq_true rfl) rfl fun fx hfx => WK.top ?_
    simp only [impl, imp, argT, List.append_nil, List.map_nil, List.nil_append, show Try.f34.ntmps = 19 from rfl, Nat.zero_add, Nat.reduceAdd]
    repeat' (first | refine WK.seq ?_ | refine WK.reg ?_ | refine IL.nil ?_ | refine WK.skip ?_ | (with_reducible refine IL.wr ?_ ?_; focus exact cW) | refine IL.sg ttok ?_ | refine IL.nn ?_ | refine IL.cS ttok ent21 [.bor, .bor] true ?_ (hS := by exact hrg) | refine IL.cS ttok ent32 [.bor] true ?_ (hS := by exact hrr) | refine IL.cS ttok ent55 [.bor] true ?_ (hS := by exact hf9) | ((first | ((first | refine IL.ag (fun h => ?_) (fun h => ?_) | refine IL.ap (fun h => ?_) (fun h => ?_)); (fail_if_success (focus (simp only [reduceCtorEq] at h)))) | refine WK.cn (fun h => ?_) (fun h => ?_)); all_goals first | (simp only [reduceCtorEq] at h; done) | (simp only [hsA, hsD, hsE, ne_eq] at h; first | done | (exfalso; omega; done) | skip) | skip))
    all_goals try ((first | refine WK.ret ⟨.inr rfl, ?_⟩ | refine ⟨.inl rfl, ?_⟩ | refine ⟨.inl trivial, ?_⟩); refine Fin.o ?_ ?_ (h1 := by first | rfl | (simp only [go_sem, show Try.f34.results.toList = [.tmp 2] from rfl, reduceIte] <;> rfl)); rotate_left 1; (focus (first | rfl | skip)); all_goals try with_reducible rfl)
    all_goals skip
theorem vecS_call (l : List Vc.Ve) (hl : l.length * 8 ≤ 140737488355328) : SCall Try.prog 10 [.tr l.length (encs Vc.veC l)] (.own 90 l.length true (encs Vc.veC l)) [.tr l.length (encs Vc.veC l)] := by
  refine SCall.of_body' (TT := TT) (fun _ => false) [false] ttok Try.func10 rfl (Nat.le_of_ble_eq_true rfl) rfl fun fx hfx => WK.top ?_
  simp only [impl, imp, argT, List.append_nil, List.map_nil, List.nil_append, show Try.f10.ntmps = 18 from rfl, Nat.zero_add, Nat.reduceAdd]
  repeat' (first | refine WK.seq ?_ | refine WK.reg ?_ | refine IL.nil ?_ | refine WK.skip ?_ | refine WK.block ?_ | refine WK.exit_here ?_ | refine WK.e1 ?_ | refine WK.e2 ?_ | (with_reducible refine IL.wr ?_ ?_; focus exact cW) | refine IL.sg ttok ?_ | (refine WK.cn (fun h => ?_) (fun h => ?_); all_goals first | (simp only [reduceCtorEq] at h; done) | (simp only [hsA, hsD, hsE, ne_eq] at h; first | done | (exfalso; omega; done) | skip) | skip))
  refine WK.forS l.length (fun k => True) (fun k => ⟨18, [(3, .sl 0 0 0 (l.take k).length), (6, .tr l.length (encs Vc.veC l)), (7, .v (.int .i64 l.length)), (8, .v (.int .i64 k))], [some ⟨true, 90, (l.take k).length, true, encs Vc.veC (l.take k), 0, false⟩]⟩) ⟨trivial, ?_⟩ (fun k hk ho => ?_) (fun ho => ?_)
  · (refine Weak.renS [1] hfx rfl ?_ ?_ rfl <;> (simp only [go_sem, reduceIte, exists_eq_left', exists_eq_left, Blk.mk.injEq, List.take_zero, List.length_nil, encs_nil] <;> (try and_intros) <;> first | rfl | omega))
  · have hx : l[k]? = some l[k] := List.getElem?_eq_getElem hk
    have hle : k * 2 + 2 ≤ l.length * 2 := by omega
    have hat : ((encs Vc.veC l).drop (k * 2)).take 2 = [.v (.int .u16 l[k].1), .v (.int .u32 l[k].2)] := encs_at Vc.veC_length hx
    have hne : encs Vc.veC l ≠ [] := encs_ne Vc.veC_length (by decide) hx
    have htl : (l.take k).length = k := by rw [List.length_take]; omega
    have htk : l.take (k + 1) = l.take k ++ [l[k]] := by rw [List.take_add_one, hx]; rfl
    have hln : (l.take (k + 1)).length = (l.take k).length + 1 := by rw [List.length_take, List.length_take]; omega
    have hcs : encs Vc.veC (l.take k) ++ [.v (.int .u16 l[k].1), .v (.int .u32 l[k].2)] = encs Vc.veC (l.take (k + 1)) := by rw [htk, ← encs_snoc]; rfl
    have FX := And.intro hat hle
    repeat' (first | refine WK.seq ?_ | refine WK.reg ?_ | refine IL.nil ?_ | refine WK.skip ?_ | refine WK.block ?_ | refine WK.exit_here ?_ | refine WK.e1 ?_ | refine WK.e2 ?_ | (with_reducible refine IL.wr ?_ ?_; focus exact cW) | refine IL.sgF ttok ?_ | (refine WK.cn (fun h => ?_) (fun h => ?_); all_goals first | (simp only [reduceCtorEq] at h; done) | (simp only [hsA, hsD, hsE, ne_eq] at h; first | done | (exfalso; omega; done) | skip) | skip))
    all_goals first | (refine Weak.renS [0] hfx rfl ?_ ?_ rfl <;> (simp only [go_sem, reduceIte, exists_eq_left', exists_eq_left, Blk.mk.injEq, hln, hcs] <;> (try and_intros) <;> first | rfl | omega)) | (refine ⟨?_, ?_⟩; rotate_left 1; (focus (refine Weak.renS [0] hfx rfl ?_ ?_ rfl <;> (simp only [go_sem, reduceIte, exists_eq_left', exists_eq_left, Blk.mk.injEq, hln, hcs] <;> (try and_intros) <;> first | rfl | omega))); first | trivial | assumption | omega | grind) | grind
  · repeat' (first | refine WK.seq ?_ | refine WK.reg ?_ | refine IL.nil ?_ | refine WK.skip ?_ | refine WK.block ?_ | refine WK.exit_here ?_ | refine WK.e1 ?_ | refine WK.e2 ?_ | (with_reducible refine IL.wr ?_ ?_; focus exact cW) | refine IL.sg ttok ?_ | (refine WK.cn (fun h => ?_) (fun h => ?_); all_goals first | (simp only [reduceCtorEq] at h; done) | (simp only [hsA, hsD, hsE, ne_eq] at h; first | done | (exfalso; omega; done) | skip) | skip))
    all_goals try ((first | refine WK.ret ⟨.inr rfl, ?_⟩ | refine ⟨.inl rfl, ?_⟩ | refine ⟨.inl trivial, ?_⟩); refine Fin.o ?_ ?_ (h1 := by first | rfl | (simp only [go_sem, show Try.f10.results.toList = [.tmp 2] from rfl, reduceIte] <;> rfl)); rotate_left 1; (focus (first | rfl | skip)); all_goals try with_reducible rfl)
theorem envS_call (d : List Vc.Ve) (r s c u : Int) (ops : List OpV) (hd : d.length * 8 ≤ 140737488355328) (hl : ops.length * 72 ≤ 140737488355328) (h16 : ∀ o ∈ ops, o.s.length * 16 ≤ 140737488355328) :
    SCall Try.prog 12 [.agg (enT d r s c u ops)] (.ago (enL (.own 90 d.length true (encs Vc.veC d)) r s c u (.own 120 ops.length false (encs opC ops)))) [.agg (enT d r s c u ops)] := by
  have hde := vecS_call d hd
  have hmt := madeTxn_call r s c u ops ops.length rfl hl h16
  refine SCall.of_body' (TT := TT) (fun _ => false) [false] ttok Try.func12 rfl (Nat.le_of_ble_eq_true rfl) rfl fun fx hfx => WK.top ?_
  simp only [impl, imp, argT, List.append_nil, List.map_nil, List.nil_append, show Try.f12.ntmps = 10 from rfl, Nat.zero_add, Nat.reduceAdd]
  repeat' (first | refine WK.seq ?_ | refine WK.reg ?_ | refine IL.nil ?_ | refine WK.drawnS (id := 1) mixed [1] [2, 5, 7] [0, 0, 0, 0, 0, 1, 2, 2] [0, 0, 0, 1, 1, 1, 2, 2] (by decide +kernel) ?_ | refine DW.nil ?_ | (with_reducible refine IL.wr ?_ ?_; focus exact cW) | (with_reducible refine DW.wr ?_ ?_; focus exact cW) | refine IL.sg ttok ?_ | refine DW.re ttok ?_ | refine DW.rm ttok ?_ | refine DW.bk ttok ?_ | refine DW.cS ttok ent10 [.bor] true ?_ (hS := by exact hde) | refine DW.cS ttok ent39 [.bor] false ?_ (hS := by exact hmt))
  all_goals try ((first | refine WK.ret ⟨.inr rfl, ?_⟩ | refine ⟨.inl rfl, ?_⟩ | refine ⟨.inl trivial, ?_⟩); refine Fin.o ?_ ?_ (h1 := by first | rfl | (simp only [go_sem, show Try.f12.results.toList = [.cell 2 49] from rfl, reduceIte] <;> rfl)); rotate_left 1; (focus (first | rfl | skip)); all_goals try with_reducible rfl)
  all_goals skip
theorem envS_frz (d : List Vc.Ve) (r s c u : Int) (ops : List OpV) (hd : d.length * 8 ≤ 140737488355328) (hl : ops.length * 72 ≤ 140737488355328) (h16 : ∀ o ∈ ops, o.s.length * 16 ≤ 140737488355328) :
    SCall Try.prog 12 [.agg (enT d r s c u ops)] (.agg (enT d r s c u ops)) [.agg (enT d r s c u ops)] := by
  have h := SCall.frz (envS_call d r s c u ops hd hl h16) rfl
  exact h
open Classical in
def smallE (d : List Vc.Ve) (r s c u : Int) (ops : List OpV) : Prop := (d.length ≤ 100 ∧ smallT ops) ∧ fit10 d r s c u ops = 0
open Classical in
theorem smallS_call (d : List Vc.Ve) (r s c u : Int) (ops : List OpV) (hd : d.length * 8 ≤ 140737488355328) (hw : wfD d) (hl : ops.length * 72 ≤ 140737488355328) (h16 : ∀ o ∈ ops, o.s.length * 16 ≤ 140737488355328) (ht : ∀ o ∈ ops, o.t.length ≤ 9223372036854775807 ∧ o.s.length ≤ 9223372036854775807) (hwo : ∀ o ∈ ops, wfC o) :
    SCall Try.prog 8 [.agg (enT d r s c u ops)] (.v (.bool (decide (smallE d r s c u ops)))) [.agg (enT d r s c u ops)] := by
  have hsm := small_call r s c u ops ops.length rfl (by omega) ht
  have hes := envS_frz d r s c u ops hd hl h16
  by_cases hS : smallT ops
  rotate_left
  · rw [decide_eq_false hS] at hsm
    rw [decide_eq_false (fun h : smallE d r s c u ops => hS h.1.2)]
    generalize smallT ops = S at *
    refine SCall.of_body' (TT := TT) (fun _ => false) [false] ttok Try.func8 rfl (Nat.le_of_ble_eq_true rfl) rfl fun fx hfx => WK.top ?_
    simp only [impl, imp, argT, List.append_nil, List.map_nil, List.nil_append, show Try.f8.ntmps = 18 from rfl, Nat.zero_add, Nat.reduceAdd]
    repeat' (first | refine WK.seq ?_ | refine WK.reg ?_ | refine IL.nil ?_ | (with_reducible refine IL.wr ?_ ?_; focus exact cW) | refine IL.sg ttok ?_ | refine IL.nn ?_ | refine IL.cS ttok ent12 [.bor] false ?_ (hS := by exact hes) | refine IL.cS ttok ent33 [.bor] true ?_ (hS := by exact hsm) | refine IL.cS ttok ent34 [.bor] true ?_ (hS := by exact hfi) | (((first | refine IL.ag (fun h => ?_) (fun h => ?_) | refine IL.ap (fun h => ?_) (fun h => ?_)); (fail_if_success (focus (simp only [reduceCtorEq] at h)))); all_goals first | (simp only [reduceCtorEq] at h; done) | (simp only [hsA, hsD, hsE, ne_eq] at h; first | done | (exfalso; omega; done) | skip) | skip))
    all_goals try ((first | refine WK.ret ⟨.inr rfl, ?_⟩ | refine ⟨.inl rfl, ?_⟩ | refine ⟨.inl trivial, ?_⟩); refine Fin.o ?_ ?_ (h1 := by first | rfl | (simp only [go_sem, show Try.f8.results.toList = [.tmp 2] from rfl, reduceIte] <;> rfl)); rotate_left 1; (focus (first | rfl | skip)); all_goals try with_reducible rfl)
    all_goals skip
  rw [decide_eq_true hS] at hsm
  by_cases h100 : d.length ≤ 100
  rotate_left
  · rw [decide_eq_false (fun h : smallE d r s c u ops => h100 h.1.1)]
    refine SCall.of_body' (TT := TT) (fun _ => false) [false] ttok Try.func8 rfl (Nat.le_of_ble_eq_true rfl) rfl fun fx hfx => WK.top ?_
    simp only [impl, imp, argT, List.append_nil, List.map_nil, List.nil_append, show Try.f8.ntmps = 18 from rfl, Nat.zero_add, Nat.reduceAdd]
    repeat' (first | refine WK.seq ?_ | refine WK.reg ?_ | refine IL.nil ?_ | (with_reducible refine IL.wr ?_ ?_; focus exact cW) | refine IL.sg ttok ?_ | refine IL.nn ?_ | refine IL.cS ttok ent12 [.bor] false ?_ (hS := by exact hes) | refine IL.cS ttok ent33 [.bor] true ?_ (hS := by exact hsm) | refine IL.cS ttok ent34 [.bor] true ?_ (hS := by exact hfi) | (((first | refine IL.ag (fun h => ?_) (fun h => ?_) | refine IL.ap (fun h => ?_) (fun h => ?_)); (fail_if_success (focus (simp only [reduceCtorEq] at h)))); all_goals first | (simp only [reduceCtorEq] at h; done) | (simp only [hsA, hsD, hsE, ne_eq] at h; first | done | (exfalso; omega; done) | skip) | skip))
    all_goals try ((first | refine WK.ret ⟨.inr rfl, ?_⟩ | refine ⟨.inl rfl, ?_⟩ | refine ⟨.inl trivial, ?_⟩); refine Fin.o ?_ ?_ (h1 := by first | rfl | (simp only [go_sem, show Try.f8.results.toList = [.tmp 2] from rfl, reduceIte] <;> rfl)); rotate_left 1; (focus (first | rfl | skip)); all_goals try with_reducible rfl)
    all_goals skip
  have hfi := rFit10_call d r s c u ops (by omega) hw hS.1 (fun o ho => by have := hS.2 o ho; unfold smallO at this; omega) hwo
  have hB : decide (smallE d r s c u ops) = (fit10 d r s c u ops == 0) := by
    by_cases h0 : fit10 d r s c u ops = 0
    · rw [decide_eq_true (show smallE d r s c u ops from ⟨⟨h100, hS⟩, h0⟩), h0]; rfl
    · rw [decide_eq_false (fun h : smallE d r s c u ops => h0 h.2)]
      exact (beq_eq_false_iff_ne.2 h0).symm
  rw [hB]
  generalize fit10 d r s c u ops = F at *
  refine SCall.of_body' (TT := TT) (fun _ => false) [false] ttok Try.func8 rfl (Nat.le_of_ble_eq_true rfl) rfl fun fx hfx => WK.top ?_
  simp only [impl, imp, argT, List.append_nil, List.map_nil, List.nil_append, show Try.f8.ntmps = 18 from rfl, Nat.zero_add, Nat.reduceAdd]
  repeat' (first | refine WK.seq ?_ | refine WK.reg ?_ | refine IL.nil ?_ | (with_reducible refine IL.wr ?_ ?_; focus exact cW) | refine IL.sg ttok ?_ | refine IL.nn ?_ | refine IL.cS ttok ent12 [.bor] false ?_ (hS := by exact hes) | refine IL.cS ttok ent33 [.bor] true ?_ (hS := by exact hsm) | refine IL.cS ttok ent34 [.bor] true ?_ (hS := by exact hfi) | (((first | refine IL.ag (fun h => ?_) (fun h => ?_) | refine IL.ap (fun h => ?_) (fun h => ?_)); (fail_if_success (focus (simp only [reduceCtorEq] at h)))); all_goals first | (simp only [reduceCtorEq] at h; done) | (simp only [hsA, hsD, hsE, ne_eq] at h; first | done | (exfalso; omega; done) | skip) | skip))
  all_goals try ((first | refine WK.ret ⟨.inr rfl, ?_⟩ | refine ⟨.inl rfl, ?_⟩ | refine ⟨.inl trivial, ?_⟩); refine Fin.o ?_ ?_ (h1 := by first | rfl | (simp only [go_sem, show Try.f8.results.toList = [.tmp 2] from rfl, reduceIte] <;> rfl)); rotate_left 1; (focus (first | rfl | skip)); all_goals try with_reducible rfl)
  all_goals skip
theorem rightS_call (v : List Vc.Ve) (hv : ∀ x ∈ v, 0 ≤ x.1 ∧ x.1 ≤ 65535) (h8 : v.length * 8 ≤ 140737488355328) : SCall Try.prog 7 [.tr v.length (encs Vc.veC v)] (.v (.bool (decide (v.length ≤ 100) && Vc.rightB v))) [.tr v.length (encs Vc.veC v)] := by
  have hvs := SCall.frz (vecS_call v h8) rfl
  simp only [frzR] at hvs
  by_cases h100 : v.length ≤ 100
  · have hrr := Vc.refRight_call v (by omega) hv
    rw [decide_eq_true h100, Bool.true_and]
    generalize Vc.rightB v = B at *
    refine SCall.of_body' (TT := TT) (fun _ => false) [false] ttok Try.func7 rfl (Nat.le_of_ble_eq_true rfl) rfl fun fx hfx => WK.top ?_
    simp only [impl, imp, argT, List.append_nil, List.map_nil, List.nil_append, show Try.f7.ntmps = 11 from rfl, Nat.zero_add, Nat.reduceAdd]
    repeat' (first | refine WK.seq ?_ | refine WK.reg ?_ | refine IL.nil ?_ | (with_reducible refine IL.wr ?_ ?_; focus exact cW) | refine IL.sg ttok ?_ | refine IL.nn ?_ | refine IL.cS ttok ent10 [.bor] false ?_ (hS := by exact hvs) | refine IL.cS ttok ent32 [.bor] true ?_ (hS := by exact hrr) | (((first | refine IL.ag (fun h => ?_) (fun h => ?_) | refine IL.ap (fun h => ?_) (fun h => ?_)); (fail_if_success (focus (simp only [reduceCtorEq] at h)))); all_goals first | (simp only [reduceCtorEq] at h; done) | (simp only [hsA, hsD, hsE, ne_eq] at h; first | done | (exfalso; omega; done) | skip) | skip))
    all_goals try ((first | refine WK.ret ⟨.inr rfl, ?_⟩ | refine ⟨.inl rfl, ?_⟩ | refine ⟨.inl trivial, ?_⟩); refine Fin.o ?_ ?_ (h1 := by first | rfl | (simp only [go_sem, show Try.f7.results.toList = [.tmp 2] from rfl, reduceIte] <;> rfl)); rotate_left 1; (focus (first | rfl | skip)); all_goals try with_reducible rfl)
    all_goals skip
  · rw [decide_eq_false h100, Bool.false_and]
    refine SCall.of_body' (TT := TT) (fun _ => false) [false] ttok Try.func7 rfl (Nat.le_of_ble_eq_true rfl) rfl fun fx hfx => WK.top ?_
    simp only [impl, imp, argT, List.append_nil, List.map_nil, List.nil_append, show Try.f7.ntmps = 11 from rfl, Nat.zero_add, Nat.reduceAdd]
    repeat' (first | refine WK.seq ?_ | refine WK.reg ?_ | refine IL.nil ?_ | (with_reducible refine IL.wr ?_ ?_; focus exact cW) | refine IL.sg ttok ?_ | refine IL.nn ?_ | refine IL.cS ttok ent10 [.bor] false ?_ (hS := by exact hvs) | refine IL.cS ttok ent32 [.bor] true ?_ (hS := by exact hrr) | (((first | refine IL.ag (fun h => ?_) (fun h => ?_) | refine IL.ap (fun h => ?_) (fun h => ?_)); (fail_if_success (focus (simp only [reduceCtorEq] at h)))); all_goals first | (simp only [reduceCtorEq] at h; done) | (simp only [hsA, hsD, hsE, ne_eq] at h; first | done | (exfalso; omega; done) | skip) | skip))
    all_goals try ((first | refine WK.ret ⟨.inr rfl, ?_⟩ | refine ⟨.inl rfl, ?_⟩ | refine ⟨.inl trivial, ?_⟩); refine Fin.o ?_ ?_ (h1 := by first | rfl | (simp only [go_sem, show Try.f7.results.toList = [.tmp 2] from rfl, reduceIte] <;> rfl)); rotate_left 1; (focus (first | rfl | skip)); all_goals try with_reducible rfl)
    all_goals skip
end Go.Proofs.Ytclhjcbnpdlgbaa
/- package hold: names, in order; where one stands. -/
namespace Go.Proofs.Ytclhjcbnpdlgbaa
open Go Go.Lift
set_option maxHeartbeats 4000000
set_option linter.unusedSimpArgs false
set_option linter.unusedVariables false
attribute [local irreducible] WK IL IP IG IW DW

structure EnV where
  d : List Vc.Ve
  r : Int
  s : Int
  c : Int
  u : Int
  ops : List OpV
def envC (e : EnV) : List IV := enT e.d e.r e.s e.c e.u e.ops
instance : CellsT envC 6 := ⟨fun _ => rfl, fun _ => rfl⟩
theorem envC_length (e : EnV) : (envC e).length = 6 := rfl
def kN (r s : Int) : Int := r * 4294967296 + s
def kE (e : EnV) : Int := kN e.r e.s
def nb (e : EnV) : Prop := (0 ≤ e.r ∧ e.r ≤ 65535) ∧ (0 ≤ e.s ∧ e.s ≤ 4294967295)
def SrtE (l : List EnV) : Prop := l.Pairwise fun a b => kE a < kE b
def posE (l : List EnV) (k : Int) : Nat := l.countP fun x => decide (kE x < k)
theorem posE_le (l : List EnV) (k : Int) : posE l k ≤ l.length := List.countP_le_length
theorem posE_iff : ∀ {l : List EnV} {r : Int}, SrtE l → ∀ k (x : EnV), l[k]? = some x → (kE x < r ↔ k < posE l r)
  | [], r, _, k, x, h => by simp at h
  | a :: l, r, hs, k, x, h => by
    obtain ⟨h1, h2⟩ := List.pairwise_cons.1 hs
    have ih := fun k x => posE_iff (r := r) h2 k x
    unfold posE at *
    rw [List.countP_cons]
    by_cases ha : kE a < r
    · rw [if_pos (by simpa using ha)]
      cases k with
      | zero => simp at h; subst h; exact ⟨fun _ => by omega, fun _ => ha⟩
      | succ k =>
        have := ih k x (by simpa using h)
        omega
    · have h0 : l.countP (fun x => decide (kE x < r)) = 0 := by
        rw [List.countP_eq_zero]
        intro y hy
        have := h1 y hy
        simp only [decide_eq_true_eq]; omega
      rw [if_neg (by simpa using ha), h0]
      cases k with
      | zero => simp at h; subst h; exact ⟨fun h => absurd h ha, fun h => by omega⟩
      | succ k =>
        have hx : x ∈ l := List.mem_of_getElem? (by simpa using h)
        have := h1 x hx
        exact ⟨fun h => by omega, fun h => by omega⟩
def hasE (l : List EnV) (k : Int) : Bool := match l[posE l k]? with
  | some x => decide (kE x = k)
  | none => false
abbrev idI (r s : Int) : IV := .agg [.v (.int .u16 r), .v (.int .u32 s)]
theorem txId_call (r s c u : Int) (ops : List OpV) : SCall Try.prog 17 [.agg (txL r s c u (.tr ops.length (encs opC ops)))] (idI r s) [.agg (txL r s c u (.tr ops.length (encs opC ops)))] := by
  refine SCall.of_body' (TT := TT) (fun _ => false) [false] ttok Try.func17 rfl (Nat.le_of_ble_eq_true rfl) rfl fun fx hfx => WK.top ?_
  simp only [impl, imp, argT, List.append_nil, List.map_nil, List.nil_append, show Try.f17.ntmps = 8 from rfl, Nat.zero_add, Nat.reduceAdd]
  repeat' (first | refine WK.seq ?_ | refine WK.reg ?_ | refine IL.nil ?_ | (with_reducible refine IL.wr ?_ ?_; focus exact cW) | refine IL.sg ttok ?_)
  all_goals try ((first | refine WK.ret ⟨.inr rfl, ?_⟩ | refine ⟨.inl rfl, ?_⟩ | refine ⟨.inl trivial, ?_⟩); refine Fin.o ?_ ?_ (h1 := by first | rfl | (simp only [go_sem, show Try.f17.results.toList = [.cell 2 57] from rfl, reduceIte] <;> rfl)); rotate_left 1; (focus (first | rfl | skip)); all_goals try with_reducible rfl)
  all_goals first | rfl | skip
def ordI (r s r' s' : Int) : Int := if r = r' then s - s' else r - r'
theorem ordI_lt {r s r' s' : Int} (h : 0 ≤ s ∧ s ≤ 4294967295) (h' : 0 ≤ s' ∧ s' ≤ 4294967295) : ordI r s r' s' < 0 ↔ kN r s < kN r' s' := by
  unfold ordI kN; split <;> omega
theorem ordI_eq {r s r' s' : Int} (h : 0 ≤ s ∧ s ≤ 4294967295) (h' : 0 ≤ s' ∧ s' ≤ 4294967295) : ordI r s r' s' = 0 ↔ kN r s = kN r' s' := by
  unfold ordI kN; split <;> omega
theorem order_call (r s r' s' : Int) (h : (0 ≤ r ∧ r ≤ 65535) ∧ (0 ≤ s ∧ s ≤ 4294967295)) (h' : (0 ≤ r' ∧ r' ≤ 65535) ∧ (0 ≤ s' ∧ s' ≤ 4294967295)) : SCall Try.prog 58 [idI r s, idI r' s'] (.v (.int .i64 (ordI r s r' s'))) [idI r s, idI r' s'] := by
  unfold ordI
  by_cases hr : r = r'
  · rw [if_pos hr]
    refine SCall.of_body' (TT := TT) (fun _ => false) [false, false] ttok Try.func58 rfl (Nat.le_of_ble_eq_true rfl) rfl fun fx hfx => WK.top ?_
    simp only [impl, imp, argT, List.append_nil, List.map_nil, List.nil_append, show Try.f58.ntmps = 24 from rfl, Nat.zero_add, Nat.reduceAdd]
    repeat' (first | refine WK.seq ?_ | refine WK.reg ?_ | refine IL.nil ?_ | refine WK.skip ?_ | (with_reducible refine IL.wr ?_ ?_; focus exact cW) | refine IL.sg ttok ?_ | (refine WK.cn (fun h => ?_) (fun h => ?_); all_goals first | (simp only [reduceCtorEq] at h; done) | (simp only [hsA, hsD, hsE, ne_eq] at h; first | done | (exfalso; omega; done) | skip) | skip))
    all_goals try ((first | refine WK.ret ⟨.inr rfl, ?_⟩ | refine ⟨.inl rfl, ?_⟩ | refine ⟨.inl trivial, ?_⟩); refine Fin.o ?_ ?_ (h1 := by first | rfl | (simp only [go_sem, show Try.f58.results.toList = [.tmp 4] from rfl, reduceIte] <;> rfl)); rotate_left 1; (focus (first | rfl | skip)); all_goals try with_reducible rfl)
    all_goals skip
  · rw [if_neg hr]
    refine SCall.of_body' (TT := TT) (fun _ => false) [false, false] ttok Try.func58 rfl (Nat.le_of_ble_eq_true rfl) rfl fun fx hfx => WK.top ?_
    simp only [impl, imp, argT, List.append_nil, List.map_nil, List.nil_append, show Try.f58.ntmps = 24 from rfl, Nat.zero_add, Nat.reduceAdd]
    repeat' (first | refine WK.seq ?_ | refine WK.reg ?_ | refine IL.nil ?_ | refine WK.skip ?_ | (with_reducible refine IL.wr ?_ ?_; focus exact cW) | refine IL.sg ttok ?_ | (refine WK.cn (fun h => ?_) (fun h => ?_); all_goals first | (simp only [reduceCtorEq] at h; done) | (simp only [hsA, hsD, hsE, ne_eq] at h; first | done | (exfalso; omega; done) | skip) | skip))
    all_goals try ((first | refine WK.ret ⟨.inr rfl, ?_⟩ | refine ⟨.inl rfl, ?_⟩ | refine ⟨.inl trivial, ?_⟩); refine Fin.o ?_ ?_ (h1 := by first | rfl | (simp only [go_sem, show Try.f58.results.toList = [.tmp 4] from rfl, reduceIte] <;> rfl)); rotate_left 1; (focus (first | rfl | skip)); all_goals try with_reducible rfl)
    all_goals skip
theorem find1_call (e : EnV) (r s : Int) (h : nb e) (h' : (0 ≤ r ∧ r ≤ 65535) ∧ (0 ≤ s ∧ s ≤ 4294967295)) : SCall Try.prog 57 [.agg (envC e), idI r s] (.v (.int .i64 (ordI e.r e.s r s))) [.agg (envC e), idI r s] := by
  have hor := order_call e.r e.s r s h h'
  unfold envC
  generalize ordI e.r e.s r s = O at *
  refine SCall.of_body' (TT := TT) (fun _ => false) [false, false] ttok Try.func57 rfl (Nat.le_of_ble_eq_true rfl) rfl fun fx hfx => WK.top ?_
  simp only [impl, imp, argT, List.append_nil, List.map_nil, List.nil_append, show Try.f57.ntmps = 10 from rfl, Nat.zero_add, Nat.reduceAdd]
  repeat' (first | refine WK.seq ?_ | refine WK.reg ?_ | refine IL.nil ?_ | refine WK.drawnS (id := 1) mixed [] [2, 4] [0, 0, 0, 0, 1, 2] [0, 0, 0, 1, 1, 2] (by decide +kernel) ?_ | refine DW.nil ?_ | (with_reducible refine IL.wr ?_ ?_; focus exact cW) | (with_reducible refine DW.wr ?_ ?_; focus exact cW) | refine IL.sg ttok ?_ | refine DW.re ttok ?_ | refine DW.rm ttok ?_ | refine DW.cS ttok ent17 [.bor] true ?_ (hS := by exact txId_call _ _ _ _ _) | refine DW.cS ttok ent58 [.bor, .bor] true ?_ (hS := by exact hor))
  all_goals try ((first | refine WK.ret ⟨.inr rfl, ?_⟩ | refine ⟨.inl rfl, ?_⟩ | refine ⟨.inl trivial, ?_⟩); refine Fin.o ?_ ?_ (h1 := by first | rfl | (simp only [go_sem, show Try.f57.results.toList = [.tmp 4] from rfl, reduceIte] <;> rfl)); rotate_left 1; (focus (first | rfl | skip)); all_goals try with_reducible rfl)
  all_goals skip
theorem bsfE_call (l : List EnV) (r s : Int) (hs : SrtE l) (hl : ∀ x ∈ l, nb x) (hr : (0 ≤ r ∧ r ≤ 65535) ∧ (0 ≤ s ∧ s ≤ 4294967295)) (hn : l.length ≤ 1000000) :
    SCallF [] Try.prog 56 [none, none, some (57, 0)] [.tr l.length (encs envC l), idI r s] (.tup [.v (.int .i64 (posE l (kN r s))), .v (.bool (hasE l (kN r s)))]) [.tr l.length (encs envC l), idI r s] := by
  generalize hK : kN r s = K
  have hp := posE_le l K
  refine SCallF.of_body' (G := []) [none, none, some (57, 0)] (TT := TT) (fun k => decide (k < 0)) [false, false] ttok Try.func56 rfl (Nat.le_of_ble_eq_true rfl) rfl fun fx hfx hgf => WK.top ?_
  simp only [impl, imp, argT, packIV, pk, List.take_succ_cons, List.drop_succ_cons, List.take_zero, List.drop_zero, List.append_nil, List.map_nil, List.map_cons, List.nil_append, List.cons_append, List.length_cons, List.length_nil, show Try.f56.ntmps = 49 from rfl, Nat.zero_add, Nat.reduceAdd]
  repeat' (first | refine WK.seq ?_ | refine WK.reg ?_ | refine IL.nil ?_ | refine WK.skip ?_ | refine WK.block ?_ | refine WK.exit_here ?_ | refine WK.e1 ?_ | refine WK.e2 ?_ | refine WK.drawnS (id := 5) mixed [] [6] [0, 0, 0, 0, 0, 0, 0, 1] [0, 0, 0, 0, 0, 0, 0, 1] (by decide +kernel) ?_ | refine WK.drawnS (id := 8) mixed [] [11] [0, 0, 0, 0, 0, 0, 0, 0, 0, 0, 0, 0, 1, 1, 1, 1] [1, 0, 0, 0, 0, 0, 0, 0, 0, 0, 0, 0, 1, 1, 1, 1] (by decide +kernel) ?_ | refine DW.nil ?_ | (with_reducible refine IL.wr ?_ ?_; focus exact cW) | (with_reducible refine DW.wr ?_ ?_; focus exact cW) | refine IL.sg ttok ?_ | refine DW.re ttok ?_ | refine DW.rm ttok ?_ | refine DW.nn ?_ | refine DW.nb ?_ | refine DW.cS ttok ent57 [.bor, .bor] true ?_ (hS := by exact hcm) | ((first | ((first | refine DW.ag (fun h => ?_) (fun h => ?_) | refine DW.ap (fun h => ?_) (fun h => ?_)); (fail_if_success (focus (simp only [reduceCtorEq] at h)))) | refine WK.cn (fun h => ?_) (fun h => ?_)); all_goals first | (simp only [reduceCtorEq] at h; done) | (simp only [hsA, hsD, hsE, ne_eq] at h; first | done | (exfalso; omega; done) | skip) | skip))
  refine WK.whileS (α := Nat × Nat) (fun x => x.2 - x.1) (fun x => x.1 ≤ posE l K ∧ posE l K ≤ x.2 ∧ x.2 ≤ l.length) (fun x => ⟨49, [(0, .tr l.length (encs envC l)), (2, .fn (.func 57) []), (4, .ptr 0 0 0), (8, .v (.int .i64 l.length)), (9, .v (.int .i64 (x.1 : Nat))), (10, .v (.int .i64 (x.2 : Nat)))], [some ⟨false, 0, 1, false, [.v (.int .u16 r), .v (.int .u32 s)], 0, false⟩]⟩) (0, l.length) ⟨⟨Nat.zero_le _, hp, Nat.le_refl _⟩, ?_⟩ ?_
  · (refine Weak.renS [0] hfx rfl ?_ ?_ rfl <;> (simp only [go_sem, reduceIte, exists_eq_left', exists_eq_left, Blk.mk.injEq] <;> (try and_intros) <;> first | rfl | omega))
  · rintro ⟨i, j⟩ ⟨h1, h2, h3⟩
    simp only at h1 h2 h3
    by_cases hij : i < j
    · have hh : (i + j) / 2 < l.length := by omega
      have hx : l[(i + j) / 2]? = some l[(i + j) / 2] := List.getElem?_eq_getElem hh
      have hpi := posE_iff hs _ _ hx (r := K)
      have hb1 := hl _ (List.getElem_mem hh)
      have hcm := find1_call l[(i + j) / 2] r s hb1 hr
      have hlt := ordI_lt (r := l[(i + j) / 2].r) (r' := r) hb1.2 hr.2
      rw [hK] at hlt
      have hat : ((encs envC l).drop ((i + j) / 2 * 6)).take 6 = envC l[(i + j) / 2] := encs_at envC_length hx
      have hle : (i + j) / 2 * 6 + 6 ≤ l.length * 6 := by omega
      have hne : encs envC l ≠ [] := encs_ne envC_length (by decide) hx
      have hw : IntKind.i64.wrap ((i : Int) + (j : Int)) = (i : Int) + (j : Int) := wrap_i64 (by omega) (by omega)
      have hsh : ((i : Int) + (j : Int)).fdiv (2 ^ min 1 64) = (((i + j) / 2 : Nat) : Int) := by
        rw [show min 1 64 = 1 from rfl, Int.fdiv_eq_ediv_of_nonneg _ (by decide)]; omega
      have hsh2 : ((i : Int) + (j : Int)).fdiv (2 ^ 1) = (((i + j) / 2 : Nat) : Int) := by
        rw [Int.fdiv_eq_ediv_of_nonneg _ (by decide)]; omega
      have hkx : kE l[(i + j) / 2] < K ↔ ordI l[(i + j) / 2].r l[(i + j) / 2].s r s < 0 := hlt.symm
      rw [hkx] at hpi
      clear hlt hkx hx hb1
      generalize ordI l[(i + j) / 2].r l[(i + j) / 2].s r s = O at *
      generalize l[(i + j) / 2] = x at *
      generalize hm : (i + j) / 2 = m at *
      have FX := And.intro hat (And.intro hle (And.intro hsh hsh2))
      repeat' (first | refine WK.seq ?_ | refine WK.reg ?_ | refine IL.nil ?_ | refine WK.skip ?_ | refine WK.block ?_ | refine WK.exit_here ?_ | refine WK.e1 ?_ | refine WK.e2 ?_ | refine WK.drawnS (id := 5) mixed [] [6] [0, 0, 0, 0, 0, 0, 0, 1] [0, 0, 0, 0, 0, 0, 0, 1] (by decide +kernel) ?_ | refine WK.drawnS (id := 8) mixed [] [11] [0, 0, 0, 0, 0, 0, 0, 0, 0, 0, 0, 0, 1, 1, 1, 1] [1, 0, 0, 0, 0, 0, 0, 0, 0, 0, 0, 0, 1, 1, 1, 1] (by decide +kernel) ?_ | refine DW.nil ?_ | (with_reducible refine IL.wr ?_ ?_; focus exact cW) | (with_reducible refine DW.wr ?_ ?_; focus exact cW) | refine IL.sgF ttok ?_ | refine DW.reF ttok ?_ | refine DW.rmF ttok ?_ | refine DW.nn ?_ | refine DW.nb ?_ | refine DW.cSF ttok ent57 [.bor, .bor] true ?_ (hS := by exact hcm) | ((first | ((first | refine DW.ag (fun h => ?_) (fun h => ?_) | refine DW.ap (fun h => ?_) (fun h => ?_)); (fail_if_success (focus (simp only [reduceCtorEq] at h)))) | refine WK.cn (fun h => ?_) (fun h => ?_)); all_goals first | (simp only [reduceCtorEq] at h; done) | (simp only [hsA, hsD, hsE, ne_eq] at h; first | done | (exfalso; omega; done) | skip) | skip))
      · refine ⟨(m + 1, j), by simp only; omega, ⟨by simp only; omega, h2, h3⟩, ?_⟩
        (refine Weak.renS [0] hfx rfl ?_ ?_ rfl <;> (simp only [go_sem, reduceIte, exists_eq_left', exists_eq_left, Blk.mk.injEq] <;> (try and_intros) <;> first | rfl | omega))
      · refine ⟨(i, m), by simp only; omega, ⟨h1, by simp only; omega, by simp only; omega⟩, ?_⟩
        (refine Weak.renS [0] hfx rfl ?_ ?_ rfl <;> (simp only [go_sem, reduceIte, exists_eq_left', exists_eq_left, Blk.mk.injEq] <;> (try and_intros) <;> first | rfl | omega))
    · obtain rfl : i = posE l K := by omega
      obtain rfl : j = posE l K := by omega
      by_cases hp2 : posE l K < l.length
      · have hx : l[posE l K]? = some l[posE l K] := List.getElem?_eq_getElem hp2
        have hb1 := hl _ (List.getElem_mem hp2)
        have hcm := find1_call l[posE l K] r s hb1 hr
        have hat : ((encs envC l).drop (posE l K * 6)).take 6 = envC l[posE l K] := encs_at envC_length hx
        have hle : posE l K * 6 + 6 ≤ l.length * 6 := by omega
        have hne : encs envC l ≠ [] := encs_ne envC_length (by decide) hx
        have heq := ordI_eq (r := l[posE l K].r) (r' := r) hb1.2 hr.2
        rw [hK] at heq
        have hh : hasE l K = decide (kE l[posE l K] = K) := by unfold hasE; rw [hx]
        rw [hh]
        have hd : (ordI l[posE l K].r l[posE l K].s r s == 0) = decide (kE l[posE l K] = K) := by
          by_cases h : kE l[posE l K] = K
          · rw [decide_eq_true h]; exact beq_iff_eq.2 (heq.2 h)
          · rw [decide_eq_false h]; exact beq_eq_false_iff_ne.2 fun e => h (heq.1 e)
        clear heq hb1 hx hh
        generalize ordI l[posE l K].r l[posE l K].s r s = O at *
        generalize decide (kE l[posE l K] = K) = D at *
        generalize l[posE l K] = x at *
        generalize posE l K = m at *
        have FX := And.intro hat (And.intro hle hd)
        repeat' (first | refine WK.seq ?_ | refine WK.reg ?_ | refine IL.nil ?_ | refine WK.skip ?_ | refine WK.block ?_ | refine WK.exit_here ?_ | refine WK.e1 ?_ | refine WK.e2 ?_ | refine WK.drawnS (id := 5) mixed [] [6] [0, 0, 0, 0, 0, 0, 0, 1] [0, 0, 0, 0, 0, 0, 0, 1] (by decide +kernel) ?_ | refine WK.drawnS (id := 8) mixed [] [11] [0, 0, 0, 0, 0, 0, 0, 0, 0, 0, 0, 0, 1, 1, 1, 1] [1, 0, 0, 0, 0, 0, 0, 0, 0, 0, 0, 0, 1, 1, 1, 1] (by decide +kernel) ?_ | refine DW.nil ?_ | (with_reducible refine IL.wr ?_ ?_; focus exact cW) | (with_reducible refine DW.wr ?_ ?_; focus exact cW) | refine IL.sgF ttok ?_ | refine DW.reF ttok ?_ | refine DW.rmF ttok ?_ | refine DW.nn ?_ | refine DW.nb ?_ | refine DW.cSF ttok ent57 [.bor, .bor] true ?_ (hS := by exact hcm) | ((first | ((first | refine DW.ag (fun h => ?_) (fun h => ?_) | refine DW.ap (fun h => ?_) (fun h => ?_)); (fail_if_success (focus (simp only [reduceCtorEq] at h)))) | refine WK.cn (fun h => ?_) (fun h => ?_)); all_goals first | (simp only [reduceCtorEq] at h; done) | (simp only [hsA, hsD, hsE, ne_eq] at h; first | done | (exfalso; omega; done) | skip) | skip))
        all_goals try ((first | refine WK.ret ⟨.inr rfl, ?_⟩ | refine ⟨.inl rfl, ?_⟩ | refine ⟨.inl trivial, ?_⟩); refine Fin.o ?_ ?_ (h1 := by first | rfl | (simp only [go_sem, show Try.f56.results.toList = [.tmp 6, .tmp 7] from rfl, reduceIte] <;> rfl)); rotate_left 1; (focus (first | rfl | skip)); all_goals try with_reducible rfl)
        all_goals skip
      · have hh : hasE l K = false := by unfold hasE; rw [List.getElem?_eq_none (by omega)]
        rw [hh]
        clear hh
        generalize posE l K = m at *
        repeat' (first | refine WK.seq ?_ | refine WK.reg ?_ | refine IL.nil ?_ | refine WK.skip ?_ | refine WK.block ?_ | refine WK.exit_here ?_ | refine WK.e1 ?_ | refine WK.e2 ?_ | refine WK.drawnS (id := 5) mixed [] [6] [0, 0, 0, 0, 0, 0, 0, 1] [0, 0, 0, 0, 0, 0, 0, 1] (by decide +kernel) ?_ | refine WK.drawnS (id := 8) mixed [] [11] [0, 0, 0, 0, 0, 0, 0, 0, 0, 0, 0, 0, 1, 1, 1, 1] [1, 0, 0, 0, 0, 0, 0, 0, 0, 0, 0, 0, 1, 1, 1, 1] (by decide +kernel) ?_ | refine DW.nil ?_ | (with_reducible refine IL.wr ?_ ?_; focus exact cW) | (with_reducible refine DW.wr ?_ ?_; focus exact cW) | refine IL.sg ttok ?_ | refine DW.re ttok ?_ | refine DW.rm ttok ?_ | refine DW.nn ?_ | refine DW.nb ?_ | refine DW.cS ttok ent57 [.bor, .bor] true ?_ (hS := by exact hcm) | ((first | ((first | refine DW.ag (fun h => ?_) (fun h => ?_) | refine DW.ap (fun h => ?_) (fun h => ?_)); (fail_if_success (focus (simp only [reduceCtorEq] at h)))) | refine WK.cn (fun h => ?_) (fun h => ?_)); all_goals first | (simp only [reduceCtorEq] at h; done) | (simp only [hsA, hsD, hsE, ne_eq] at h; first | done | (exfalso; omega; done) | skip) | skip))
        all_goals try ((first | refine WK.ret ⟨.inr rfl, ?_⟩ | refine ⟨.inl rfl, ?_⟩ | refine ⟨.inl trivial, ?_⟩); refine Fin.o ?_ ?_ (h1 := by first | rfl | (simp only [go_sem, show Try.f56.results.toList = [.tmp 6, .tmp 7] from rfl, reduceIte] <;> rfl)); rotate_left 1; (focus (first | rfl | skip)); all_goals try with_reducible rfl)
        all_goals skip
abbrev bufO (l : List EnV) : IV := .obj [.own 36 l.length false (encs envC l)]
theorem findE_call (l : List EnV) (r s : Int) (hs : SrtE l) (hl : ∀ x ∈ l, nb x) (hr : (0 ≤ r ∧ r ≤ 65535) ∧ (0 ≤ s ∧ s ≤ 4294967295)) (hn : l.length ≤ 1000000) :
    SCall Try.prog 35 [bufO l, idI r s] (.tup [.v (.int .i64 (posE l (kN r s))), .v (.bool (hasE l (kN r s)))]) [bufO l, idI r s] := by
  refine SCallG.toS ?_
  refine SCallG.of_body' (G := []) (TT := TT) (fun k => decide (k < 1)) [false, false] ttok Try.func35 rfl (Nat.le_of_ble_eq_true rfl) rfl fun fx hfx hgf => WK.top ?_
  simp only [impl, imp, argT, List.append_nil, List.map_nil, List.map_cons, List.nil_append, List.cons_append, List.length_cons, List.length_nil, show Try.f35.ntmps = 14 from rfl, Nat.zero_add, Nat.reduceAdd]
  repeat' (first | refine WK.seq ?_ | refine WK.reg ?_ | refine IL.nil ?_ | refine WK.drawnS (id := 1) mixed [] [5] [0, 0, 0, 0, 0, 0, 1, 1, 1, 1] [0, 0, 0, 0, 0, 0, 1, 1, 1, 1] (by decide +kernel) ?_ | refine DW.nil ?_ | (with_reducible refine IL.wr ?_ ?_; focus exact cW) | (with_reducible refine DW.wr ?_ ?_; focus exact cW) | refine IL.sg ttok ?_ | refine DW.re ttok ?_ | refine DW.rm ttok ?_ | (refine DW.callSF [none, none, some (57, 0)] hgf (f := 56) (xs := ?_) (A := ?_) (A' := ?_) (rr := ?_) (L' := ?_) (T' := ?_) (bs := ?_) (ks := ?_) (sets := ?_) (pushes := ?_) ttok ent56 [.bor, .bor] true rfl ?_ ?_ ?_ ?_ ?_ ?_ ?_ ?_ ?_ ?_ (fun K hK => ?_) ?_ ?_ ?_; rotate_left 10; (focus exact cG); (focus rfl); (focus rfl); (focus (first | rfl | (simp only [go_sem, reduceIte] <;> rfl))); (focus (exact bsfE_call _ _ _ hs hl hr hn)); (focus rfl); (focus rfl); (focus (first | rfl | simp only [go_sem])); (focus (first | rfl | (simp only [go_sem, reduceIte] <;> rfl))); (focus simp); (focus (simp only [go_sem, reduceIte]; exact cK hK)); (focus (first | exact ⟨_, rfl⟩ | rfl)); (focus (first | exact .inl rfl | exact .inr (LEX.refl _ _) | exact .inr (LE.app _ _).lex | exact .inr (LEX.of (by simp only [go_sem, List.contains_cons, List.contains_nil, Nat.reduceBEq, Bool.or_false, Bool.false_or, Nat.reduceAdd, true_or, false_or, true_and]; first | done | trivial | (and_intros <;> first | exact ⟨_, rfl⟩ | trivial)))))))
  all_goals try ((first | refine WK.ret ⟨.inr rfl, ?_⟩ | refine ⟨.inl rfl, ?_⟩ | refine ⟨.inl trivial, ?_⟩); refine Fin.o ?_ ?_ (h1 := by first | rfl | (simp only [go_sem, show Try.f35.results.toList = [.tmp 4, .tmp 5] from rfl, reduceIte] <;> rfl)); rotate_left 1; (focus (first | rfl | skip)); all_goals try with_reducible rfl)
  all_goals skip
theorem len_call (l : List EnV) : SCall Try.prog 23 [bufO l] (.v (.int .i64 (l.length : Int))) [bufO l] := by
  refine SCall.of_body' (TT := TT) (fun k => decide (k < 1)) [false] ttok Try.func23 rfl (Nat.le_of_ble_eq_true rfl) rfl fun fx hfx => WK.top ?_
  simp only [impl, imp, argT, List.append_nil, List.map_nil, List.map_cons, List.nil_append, List.cons_append, List.length_cons, List.length_nil, show Try.f23.ntmps = 8 from rfl, Nat.zero_add, Nat.reduceAdd]
  repeat' (first | refine WK.seq ?_ | refine WK.reg ?_ | refine IL.nil ?_ | (with_reducible refine IL.wr ?_ ?_; focus exact cW) | refine IL.sg ttok ?_)
  all_goals try ((first | refine WK.ret ⟨.inr rfl, ?_⟩ | refine ⟨.inl rfl, ?_⟩ | refine ⟨.inl trivial, ?_⟩); refine Fin.o ?_ ?_ (h1 := by first | rfl | (simp only [go_sem, show Try.f23.results.toList = [.tmp 2] from rfl, reduceIte] <;> rfl)); rotate_left 1; (focus (first | rfl | skip)); all_goals try with_reducible rfl)
  all_goals skip
end Go.Proofs.Ytclhjcbnpdlgbaa
/- slices.Insert and slices.Delete at envelopes. -/
namespace Go.Proofs.Ytclhjcbnpdlgbaa
open Go Go.Lift Go.Lib
set_option maxHeartbeats 4000000
set_option maxRecDepth 100000
set_option linter.unusedSimpArgs false
set_option linter.unusedVariables false

theorem eins_shift (g n c i gv m vc : Nat) (cur curv : Array Value) (us vs : List Value) (w : World) (hi : i < n) (hm : 0 < m) (hroom : n + m ≤ c) (hc63 : c ≤ 9223372036854775807) (hne : gv ≠ g)
    (hg : w.heap[g]? = some (.cells cur 36 (0, 0))) (hcur : cur.size = c * 6) (hgv : w.heap[gv]? = some (.cells curv 36 (0, 0)))
    (hus : us.length = (n - i) * 6) (hu : ∀ (j : Nat) (v : Value), us[j]? = some v → cur[i * 6 + j]? = some v) (hvs : vs.length = m * 6) (hv : ∀ (j : Nat) (v : Value), vs[j]? = some v → curv[j]? = some v) (h1c : ∀ v ∈ us, v.oneCell' = true) (h1v : ∀ v ∈ vs, v.oneCell' = true) :
    Calls Try.prog 36 #[.slice (some ⟨g, 0, none⟩) n c, .int .i64 i, .slice (some ⟨gv, 0, none⟩) m vc] w fun e w' =>
      e = .returned (.slice (some ⟨g, 0, none⟩) (n + m) c) ∧ w' = (w.drew.setRow g (spl cur ((i + m) * 6) us)).setRow g (spl (spl cur ((i + m) * 6) us) (i * 6) vs) := by
  have hmixed := mixed
  obtain ⟨i0, hi0, hi1, hi2⟩ : ∃ i0, (Try.prog).info? 36 = some i0 ∧ i0.size = 6 ∧ True := ⟨_, rfl, rfl, trivial⟩
  have u1 : (Try.prog).underlying 22 = some (.slice 36) := by kernel_rfl
  have u2 : (Try.prog).underlying 22 = some (.slice 36) := by kernel_rfl
  have v1 := fun w => run_underlying (w := w) u1
  have v2 := fun w => run_underlying (w := w) u2
  have z1 : ∀ w, (Go.sizeOf 36).run Try.prog w = .ok 6 w := fun w => by simp [sizeOf, typeInfo, hi0, hi1]
  have hz1 : ¬ ((m : Int) = 0) := by omega
  have hz2 : ¬ ((i : Int) = (n : Int)) := by omega
  have hcell : ∀ j, w.cell? ⟨g, j, none⟩ = cur[j]? := fun j => cell_of_row w g j cur _ _ hg
  have hcp1 : ∀ ty dc sc, (Builtin.copy_ #[22, 22] ty #[.slice (some ⟨g, (i + m) * 6, none⟩) (n + m - (i + m)) dc, .slice (some ⟨g, i * 6, none⟩) (n + m - i) sc]).run Try.prog w.drew = .ok (goInt (n - i : Nat)) (w.drew.setRow g (spl cur ((i + m) * 6) us)) := fun ty dc sc =>
    run_copyR w.drew u1 hi0 (g := g) (T := 36) (arr := cur) hg _ _ _ _ _ (n - i) us (by omega) (by rw [hus, hi1]) (fun j v hj => by
      rw [Addr.add_lit]
      exact (hcell _).trans (hu j v hj)) (by rw [hus, hcur]; omega) h1c
  have hsz := spl_size cur ((i + m) * 6) us (by rw [hus, hcur]; omega)
  obtain ⟨W1, hW1⟩ : ∃ W1, W1 = w.drew.setRow g (spl cur ((i + m) * 6) us) := ⟨_, rfl⟩
  have hgv1 : W1.heap[gv]? = some (.cells curv 36 (0, 0)) := by
    rw [hW1, setRow_other _ _ _ _ hne]; exact hgv
  have hcp2 : ∀ ty dc, (Builtin.copy_ #[22, 22] ty #[.slice (some ⟨g, i * 6, none⟩) (n + m - i) dc, .slice (some ⟨gv, 0, none⟩) m vc]).run Try.prog W1 = .ok (goInt (m : Nat)) (W1.setRow g (spl (spl cur ((i + m) * 6) us) (i * 6) vs)) := fun ty dc =>
    run_copyR W1 u1 hi0 (g := g) (T := 36) (arr := spl cur ((i + m) * 6) us) (by rw [hW1]; exact setRow_heap w.drew g cur _ _ _ hg) _ _ _ _ _ m vs (by omega) (by rw [hvs, hi1]) (fun j v hj => by
      rw [Addr.add_lit, Nat.zero_add]
      exact (cell_of_row _ gv j curv _ _ hgv1).trans (hv j v hj)) (by rw [hsz, hvs, hcur]; omega) h1v
  subst hW1
  have hov : ∀ lb cb, (callFunc 59 #[.slice (some ⟨gv, 0, none⟩) m vc, .slice (some ⟨g, (i + m) * 6, none⟩) lb cb]).run Try.prog w = .ok (.value (.bool false)) w := fun lb cb => by
    rw [run_callFunc_extern Try.func59 (by kernel_rfl) (by kernel_rfl) (by kernel_rfl) (e := Extern.SlicesOverlaps.overlaps #[22, 22] #[4]) (by kernel_rfl),
      Lib.run_overlaps_apart w 22 4 36 u2 6 z1 ⟨gv, 0, none⟩ ⟨g, (i + m) * 6, none⟩ m vc lb cb hne 36 36 curv.size cur.size (by simp [World.shape?, hgv]) (by simp [World.shape?, hg]) (by omega) (by simp [World.frozen?, hgv]) (by simp [World.frozen?, hgv])]
    rfl
  have hw1 : IntKind.i64.wrap ((i : Int) + (m : Int)) = (i : Int) + (m : Int) := by rw [IntKind.wrap_i64]; omega
  have hb1 : (0 : Int) ≤ (i : Int) + (m : Int) := by omega
  have hin : i ≤ n := by omega
  have htn : ((i : Int) + (m : Int)).toNat = i + m := by omega
  have hb2 : ¬ (c = i + m) := by omega
  have hb3 : (i : Int) ≤ (n : Int) + (m : Int) := by omega
  have hb4 : ¬ (c = i) := by omega
  clear hus hu hvs hv h1c h1v hcur hsz hcell hgv1 hg hgv
  go_enter Try.func36, Try.ntmps36
  go_wp2_with (simp only [hov])
  go_region_law_o (refine step_copy_runI rfl _ _ 22 22 rfl _ _ (by simp [Act.eval, Act.put]) (by simp [Act.eval, Act.put]) (hcp1 _ _ _) ?_)
  go_wp2_with (at_builtin; refine wpList_copy_runI _ rfl _ _ 22 22 rfl _ _ rfl rfl (hcp2 _ _) ?_)
  go_ret
  exact ⟨rfl, rfl⟩

theorem eins_end (base : Option Addr) (n c gv m vc : Nat) (w w1 : World) (v : Value) (hm : 0 < m) (hnc : n ≤ c) (hc63 : c ≤ 9223372036854775807)
    (hrun : ∀ ty, (Builtin.append_ #[22, 22] ty #[.slice base n c, .slice (some ⟨gv, 0, none⟩) m vc]).run Try.prog w = .ok v w1) :
    Calls Try.prog 36 #[.slice base n c, .int .i64 n, .slice (some ⟨gv, 0, none⟩) m vc] w fun e w' => e = .returned v ∧ w' = w1 := by
  have hmixed := mixed
  have u1 : (Try.prog).underlying 22 = some (.slice 36) := by kernel_rfl
  have u2 : (Try.prog).underlying 22 = some (.slice 36) := by kernel_rfl
  have v1 := fun w => run_underlying (w := w) u1
  have v2 := fun w => run_underlying (w := w) u2
  obtain ⟨i0, hi0, hi1⟩ : ∃ i0, (Try.prog).info? 36 = some i0 ∧ i0.size = 6 := ⟨_, rfl, rfl⟩
  have z1 : ∀ w, (Go.sizeOf 36).run Try.prog w = .ok 6 w := fun w => by simp [sizeOf, typeInfo, hi0, hi1]
  have hz1 : ¬ ((m : Int) = 0) := by omega
  go_enter Try.func36, Try.ntmps36
  cases base with
  | none =>
    go_wp2_with (at_builtin; refine Lib.wpList_append_run _ rfl _ _ _ _ rfl _ _ rfl rfl _ _ (hrun _) ?_)
    all_goals (go_ret; exact ⟨rfl, rfl⟩)
  | some a =>
    obtain ⟨ab, ao, asp⟩ := a
    go_wp2_with (at_builtin; refine Lib.wpList_append_run _ rfl _ _ _ _ rfl _ _ rfl rfl _ _ (hrun _) ?_)
    all_goals (go_ret; exact ⟨rfl, rfl⟩)
theorem eins_grow (g n c i gv m vc g2 c2 : Nat) (w w1 w2 w3 : World) (hi : i < n) (hnc : n ≤ c) (hm : 0 < m) (hroom : c < n + m) (hc63 : n + m ≤ 9223372036854775807) (hc2 : n + m ≤ c2)
    (hrz : ∀ ty, (Builtin.append_ #[22, 3] ty #[.slice (some ⟨g, 0, none⟩) i c, .int .i64 ((n : Int) + m - i)]).run Try.prog w = .ok (.slice (some ⟨g2, 0, none⟩) (n + m) c2) w1)
    (hcpA : ∀ ty dc, (Builtin.copy_ #[22, 22] ty #[.slice (some ⟨g2, i * 6, none⟩) (n + m - i) dc, .slice (some ⟨gv, 0, none⟩) m vc]).run Try.prog w1 = .ok (goInt (m : Nat)) w2)
    (hcpB : ∀ ty dc sc, (Builtin.copy_ #[22, 22] ty #[.slice (some ⟨g2, (i + m) * 6, none⟩) (n + m - (i + m)) dc, .slice (some ⟨g, i * 6, none⟩) (n - i) sc]).run Try.prog w2.drew = .ok (goInt (n - i : Nat)) w3) :
    Calls Try.prog 36 #[.slice (some ⟨g, 0, none⟩) n c, .int .i64 i, .slice (some ⟨gv, 0, none⟩) m vc] w fun e w' =>
      e = .returned (.slice (some ⟨g2, 0, none⟩) (n + m) c2) ∧ w' = w3 := by
  have hmixed := mixed
  have u1 : (Try.prog).underlying 22 = some (.slice 36) := by kernel_rfl
  have u2 : (Try.prog).underlying 22 = some (.slice 36) := by kernel_rfl
  have v1 := fun w => run_underlying (w := w) u1
  have v2 := fun w => run_underlying (w := w) u2
  obtain ⟨i0, hi0, hi1⟩ : ∃ i0, (Try.prog).info? 36 = some i0 ∧ i0.size = 6 := ⟨_, rfl, rfl⟩
  have z1 : ∀ w, (Go.sizeOf 36).run Try.prog w = .ok 6 w := fun w => by simp [sizeOf, typeInfo, hi0, hi1]
  have hz1 : ¬ ((m : Int) = 0) := by omega
  have hz2 : ¬ ((i : Int) = (n : Int)) := by omega
  have hz3 : (c : Int) < (n : Int) + (m : Int) := by omega
  have hw1 : IntKind.i64.wrap ((i : Int) + (m : Int)) = (i : Int) + (m : Int) := by rw [IntKind.wrap_i64]; omega
  have hb1 : (0 : Int) ≤ (i : Int) + (m : Int) := by omega
  have hin : i ≤ n := by omega
  have htn : ((i : Int) + (m : Int)).toNat = i + m := by omega
  have hb3 : (i : Int) ≤ (n : Int) := by omega
  have hGi : ¬ (c2 = i) := by omega
  have hGim : ¬ (c2 = i + m) := by omega
  have hci : ¬ (c = i) := by omega
  go_enter Try.func36, Try.ntmps36
  go_wp2_with (first
    | (at_builtin; refine Lib.wpList_append_run _ rfl _ _ _ _ rfl _ _ rfl rfl _ _ (hrz _) ?_)
    | (at_builtin; refine wpList_copy_runI _ rfl _ _ 22 22 rfl _ _ rfl rfl (hcpA _ _) ?_))
  go_region_law_o (refine step_copy_runI rfl _ _ 22 22 rfl _ _ (by simp [Act.eval, Act.put]) (by simp [Act.eval, Act.put]) (hcpB _ _ _) ?_)
  go_wp2
  go_ret
  exact ⟨rfl, rfl⟩
theorem edel_walk (g n c i j : Nat) (A : Addr) (w w1 w2 : World) (hij : i < j) (hj : j ≤ n) (hnc : n ≤ c) (hc63 : c ≤ 9223372036854775807) (hA : (if c = j then (some ⟨g, 0, none⟩ : Option Addr) else some ⟨g, j * 6, none⟩) = some A)
    (hap : ∀ ty, (Builtin.append_ #[22, 22] ty #[.slice (some ⟨g, 0, none⟩) i c, .slice (some A) (n - j) (c - j)]).run Try.prog w.drew = .ok (.slice (some ⟨g, 0, none⟩) (i + (n - j)) c) w1)
    (hclr : ∀ ty, (Builtin.clear_ #[22] ty #[.slice (some ⟨g, (i + (n - j)) * 6, none⟩) (n - (i + (n - j))) (c - (i + (n - j)))]).run Try.prog w1 = .ok (.tuple #[]) w2) :
    Calls Try.prog 38 #[.slice (some ⟨g, 0, none⟩) n c, .int .i64 i, .int .i64 j] w fun e w' => e = .returned (.slice (some ⟨g, 0, none⟩) (i + (n - j)) c) ∧ w' = w2 := by
  have hmixed := mixed
  have u1 : (Try.prog).underlying 22 = some (.slice 36) := by kernel_rfl
  have v1 := fun w => run_underlying (w := w) u1
  obtain ⟨i0, hi0, hi1⟩ : ∃ i0, (Try.prog).info? 36 = some i0 ∧ i0.size = 6 := ⟨_, rfl, rfl⟩
  have z1 : ∀ w, (Go.sizeOf 36).run Try.prog w = .ok 6 w := fun w => by simp [sizeOf, typeInfo, hi0, hi1]
  have hz1 : ¬ ((i : Int) = (j : Int)) := by omega
  have hic : i ≤ c := by omega
  have hjc : j ≤ c := by omega
  have hci : ¬ (c = i + (n - j)) := by omega
  go_enter Try.func38, Try.ntmps38
  go_wp2_with fail
  go_region_law_o (refine step_append_runI rfl _ _ 22 22 rfl _ _ (by simp [Act.eval, Act.put]) (by simp [Act.eval, Act.put]) (hap _) ?_)
  go_wp2_with (at_builtin; refine wpList_clear_runI _ rfl _ 22 rfl _ rfl (hclr _) ?_)
  go_ret
  exact ⟨rfl, rfl⟩
theorem infoE : ∃ i, (Try.prog).info? 36 = some i ∧ i.size = 6 ∧ i.zero = some (.agg #[.slice none 0 0, .int .u16 0, .int .u32 0, .int .u64 0, .int .i64 0, .slice none 0 0]) ∧ i.bytes = 72 := ⟨_, rfl, rfl, rfl, rfl⟩
theorem eins_call (l : List EnV) (x : EnV) (i : Nat) (hi : i ≤ l.length) (hn : l.length ≤ 1000000) :
    SCall Try.prog 36 [.own 36 l.length false (encs envC l), .v (.int .i64 i), .own 36 1 false (envC x)]
      (.own 36 (l.length + 1) false (encs envC (l.take i ++ ([x] ++ l.drop i)))) [.gone, .v (.int .i64 i), .gone] := by
  obtain ⟨ie, h1, h2, h3, h4⟩ := infoE
  have h := SCall.of_insert (P := Try.prog) (f := 36) (tS := 22) (tV := 22) (tI := 3) (kn := .i64) h1 h2 (by decide) h3 rfl (by kernel_rfl) (by kernel_rfl) (by kernel_rfl)
    eins_shift eins_end eins_grow i l.length 1 false (encs envC l) (envC x) hi (by decide) (by simp only [maxLen]; omega) (by rw [h4]; omega)
  have e : (encs envC l).take (i * 6) ++ envC x ++ (encs envC l).drop (i * 6) = encs envC (l.take i ++ ([x] ++ l.drop i)) := by
    rw [encs_take envC_length, encs_drop envC_length, List.append_assoc, ← encs_append, ← encs_append]; rfl
  rw [e] at h
  exact h
theorem edel_call (l : List EnV) (i : Nat) (hi : i < l.length) (hn : l.length ≤ 1000000) :
    SCall Try.prog 38 [.own 36 l.length false (encs envC l), .v (.int .i64 i), .v (.int .i64 ((i : Int) + 1))]
      (.own 36 (i + (l.length - (i + 1))) false (encs envC (l.take i ++ l.drop (i + 1)))) [.gone, .v (.int .i64 i), .v (.int .i64 ((i : Int) + 1))] := by
  obtain ⟨ie, h1, h2, h3, h4⟩ := infoE
  have h := SCall.of_delete (P := Try.prog) (f := 38) (tS := 22) h1 h2 (by decide) h3 rfl (by decide) (by kernel_rfl)
    edel_walk i (i + 1) l.length false (encs envC l) (by omega) (by omega)
  have e : (encs envC l).take (i * 6) ++ (encs envC l).drop ((i + 1) * 6) = encs envC (l.take i ++ l.drop (i + 1)) := by
    rw [encs_take envC_length, encs_drop envC_length, ← encs_append]
  rw [e, show ((i + 1 : Nat) : Int) = (i : Int) + 1 by omega] at h
  exact h
end Go.Proofs.Ytclhjcbnpdlgbaa
/- package hold: Names, Put, Take. -/
namespace Go.Proofs.Ytclhjcbnpdlgbaa
open Go Go.Lift
set_option maxHeartbeats 4000000
set_option linter.unusedSimpArgs false
set_option linter.unusedVariables false
attribute [local irreducible] WK IL IP IG IW DW

section
variable (d h : List Vc.Ve) (r s c u : Int) (ops : List OpV) (hd : Vc.Vec d) (hh : Vc.Vec h) (hr : 0 ≤ r ∧ r ≤ 65535) (hs : 1 ≤ s ∧ s ≤ 268435456) (ld : d.length ≤ 1000) (lh : h.length ≤ 100000)
include hd hh hr hs ld lh
theorem ready_call : SCall Try.prog 37 [.agg (enT d r s c u ops), .tr h.length (encs Vc.veC h)] (.v (.bool (decide (Vc.getV h r = s - 1) && Vc.covV h d))) [.agg (enT d r s c u ops), .tr h.length (encs Vc.veC h)] := by
  have hcg := Vc.get_call h r hh.s hh.ok.r hr (by omega)
  have hcc := Vc.covers_call h d hh.s hh.ok hd.ok (by omega) (by omega)
  have hw : IntKind.u32.wrap (s - 1) = s - 1 := wrap_u32 (by omega) (by omega)
  by_cases hb : Vc.getV h r = s - 1
  · rw [decide_eq_true hb, Bool.true_and]
    generalize Vc.covV h d = B at *
    generalize Vc.getV h r = g at *
    refine SCall.of_body' (TT := TT) (fun _ => false) [false, false] ttok Try.func37 rfl (Nat.le_of_ble_eq_true rfl) rfl fun fx hfx => WK.top ?_
    simp only [impl, imp, argT, List.append_nil, List.map_nil, List.nil_append, show Try.f37.ntmps = 21 from rfl, Nat.zero_add, Nat.reduceAdd]
    have FX := hw
    repeat' (first | refine WK.seq ?_ | refine WK.reg ?_ | refine IL.nil ?_ | refine WK.drawnS (id := 1) mixed [] [4, 14] [0, 0, 0, 0, 0, 0, 0, 0, 0, 1, 1, 1, 1, 1, 1, 2, 2] [0, 0, 0, 0, 0, 1, 1, 1, 1, 1, 1, 1, 1, 1, 1, 2, 2] (by decide +kernel) ?_ | refine DW.nil ?_ | (with_reducible refine IL.wr ?_ ?_; focus exact cW) | (with_reducible refine DW.wr ?_ ?_; focus exact cW) | refine IL.sgF ttok ?_ | refine DW.reF ttok ?_ | refine DW.rmF ttok ?_ | refine DW.nn ?_ | refine DW.nb ?_ | refine DW.cSF ttok ent61 [.bor, .bor] true ?_ (hS := by exact hcg) | refine DW.cSF ttok ent62 [.bor, .bor] true ?_ (hS := by exact hcc) | (((first | refine DW.ag (fun h => ?_) (fun h => ?_) | refine DW.ap (fun h => ?_) (fun h => ?_)); (fail_if_success (focus (simp only [reduceCtorEq] at h)))); all_goals first | (simp only [reduceCtorEq] at h; done) | (simp only [hsA, hsD, hsE, ne_eq] at h; first | done | (exfalso; omega; done) | skip) | skip))
    all_goals try ((first | refine WK.ret ⟨.inr rfl, ?_⟩ | refine ⟨.inl rfl, ?_⟩ | refine ⟨.inl trivial, ?_⟩); refine Fin.o ?_ ?_ (h1 := by first | rfl | (simp only [go_sem, show Try.f37.results.toList = [.tmp 4] from rfl, reduceIte] <;> rfl)); rotate_left 1; (focus (first | rfl | skip)); all_goals try with_reducible rfl)
    all_goals skip
  · rw [decide_eq_false hb, Bool.false_and]
    have hb2 : (Vc.getV h r == s - 1) = false := by simpa using hb
    generalize Vc.getV h r = g at *
    refine SCall.of_body' (TT := TT) (fun _ => false) [false, false] ttok Try.func37 rfl (Nat.le_of_ble_eq_true rfl) rfl fun fx hfx => WK.top ?_
    simp only [impl, imp, argT, List.append_nil, List.map_nil, List.nil_append, show Try.f37.ntmps = 21 from rfl, Nat.zero_add, Nat.reduceAdd]
    have FX := And.intro hw hb2
    repeat' (first | refine WK.seq ?_ | refine WK.reg ?_ | refine IL.nil ?_ | refine WK.drawnS (id := 1) mixed [] [4, 14] [0, 0, 0, 0, 0, 0, 0, 0, 0, 1, 1, 1, 1, 1, 1, 2, 2] [0, 0, 0, 0, 0, 1, 1, 1, 1, 1, 1, 1, 1, 1, 1, 2, 2] (by decide +kernel) ?_ | refine DW.nil ?_ | (with_reducible refine IL.wr ?_ ?_; focus exact cW) | (with_reducible refine DW.wr ?_ ?_; focus exact cW) | refine IL.sgF ttok ?_ | refine DW.reF ttok ?_ | refine DW.rmF ttok ?_ | refine DW.nn ?_ | refine DW.nb ?_ | refine DW.cSF ttok ent61 [.bor, .bor] true ?_ (hS := by exact hcg) | refine DW.cSF ttok ent62 [.bor, .bor] true ?_ (hS := by exact hcc) | (((first | refine DW.ag (fun h => ?_) (fun h => ?_) | refine DW.ap (fun h => ?_) (fun h => ?_)); (fail_if_success (focus (simp only [reduceCtorEq] at h)))); all_goals first | (simp only [reduceCtorEq] at h; done) | (simp only [hsA, hsD, hsE, ne_eq] at h; first | done | (exfalso; omega; done) | skip) | skip))
    all_goals try ((first | refine WK.ret ⟨.inr rfl, ?_⟩ | refine ⟨.inl rfl, ?_⟩ | refine ⟨.inl trivial, ?_⟩); refine Fin.o ?_ ?_ (h1 := by first | rfl | (simp only [go_sem, show Try.f37.results.toList = [.tmp 4] from rfl, reduceIte] <;> rfl)); rotate_left 1; (focus (first | rfl | skip)); all_goals try with_reducible rfl)
    all_goals skip
end
theorem envC_eq (e : EnV) : envC e = enT e.d e.r e.s e.c e.u e.ops := rfl
theorem put_has (l : List EnV) (e : EnV) (hs : SrtE l) (hl : ∀ x ∈ l, nb x) (he : nb e) (hn : l.length ≤ 100000) (hh : hasE l (kE e) = true) :
    SCall Try.prog 9 [bufO l, .agg (envC e)] (.tup [.v (.bool false), .v (.int .i64 0)]) [bufO l, .agg (envC e)] := by
  have hfi := findE_call l e.r e.s hs hl he (by omega)
  rw [show kN e.r e.s = kE e from rfl, hh] at hfi
  rw [envC_eq]
  generalize posE l (kE e) = p at *
  refine SCall.of_body' (TT := TT) (fun k => decide (k < 1)) [false, false] ttok Try.func9 rfl (Nat.le_of_ble_eq_true rfl) rfl fun fx hfx => WK.top ?_
  simp only [impl, imp, argT, List.append_nil, List.map_nil, List.map_cons, List.nil_append, List.cons_append, List.length_cons, List.length_nil, show Try.f9.ntmps = 36 from rfl, Nat.zero_add, Nat.reduceAdd]
  repeat' (first | refine WK.seq ?_ | refine WK.reg ?_ | refine IL.nil ?_ | refine WK.skip ?_ | refine WK.block ?_ | refine WK.drawnS (id := 6) mixed [] [7, 8, 11] [0, 0, 0, 0, 0, 0, 0, 0, 1, 2, 2, 2] [2, 1, 1, 1, 1, 1, 0, 0, 1, 2, 2, 2] (by decide +kernel) ?_ | refine DW.nil ?_ | (with_reducible refine IL.wr ?_ ?_; focus exact cW) | (with_reducible refine DW.wr ?_ ?_; focus exact cW) | refine IL.sg ttok ?_ | refine DW.re ttok ?_ | refine DW.rm ttok ?_ | refine DW.bk ttok ?_ | refine IL.cS ttok ent17 [.bor] true ?_ (hS := by exact txId_call _ _ _ _ _) | refine IL.cS ttok ent35 [.own, .bor] false ?_ (hS := by exact hfi) | refine DW.cS ttok ent36 [.own, .bor, .own] false ?_ (hS := by exact hin) | (refine WK.cn (fun h => ?_) (fun h => ?_); all_goals first | (simp only [reduceCtorEq] at h; done) | (simp only [hsA, hsD, hsE, ne_eq] at h; first | done | (exfalso; omega; done) | skip) | skip))
  all_goals try ((first | refine WK.ret ⟨.inr rfl, ?_⟩ | refine ⟨.inl rfl, ?_⟩ | refine ⟨.inl trivial, ?_⟩); refine Fin.o ?_ ?_ (h1 := by first | rfl | (simp only [go_sem, show Try.f9.results.toList = [.tmp 4, .tmp 5] from rfl, reduceIte] <;> rfl)); rotate_left 1; (focus (first | rfl | skip)); all_goals try with_reducible rfl)
  all_goals skip
def putE (l : List EnV) (e : EnV) : List EnV := l.take (posE l (kE e)) ++ ([e] ++ l.drop (posE l (kE e)))
theorem putE_len (l : List EnV) (e : EnV) : (putE l e).length = l.length + 1 := by
  have := posE_le l (kE e)
  unfold putE; simp only [List.length_append, List.length_take, List.length_drop, List.length_singleton]; omega
theorem put_ok (l : List EnV) (e : EnV) (hs : SrtE l) (hl : ∀ x ∈ l, nb x) (he : nb e) (hn : l.length ≤ 100000) (hh : hasE l (kE e) = false) (h64 : l.length < 64) :
    SCall Try.prog 9 [bufO l, .agg (envC e)] (.tup [.v (.bool true), .v (.int .i64 0)]) [bufO (putE l e), .agg (envC e)] := by
  have hfi := findE_call l e.r e.s hs hl he (by omega)
  rw [show kN e.r e.s = kE e from rfl, hh] at hfi
  have hp := posE_le l (kE e)
  have hin := eins_call l e (posE l (kE e)) hp (by omega)
  rw [show l.take (posE l (kE e)) ++ ([e] ++ l.drop (posE l (kE e))) = putE l e from rfl] at hin
  unfold bufO
  rw [putE_len]
  generalize encs envC (putE l e) = Z at *
  rw [envC_eq] at hin
  rw [envC_eq]
  generalize posE l (kE e) = p at *
  refine SCall.of_body' (TT := TT) (fun k => decide (k < 1)) [false, false] ttok Try.func9 rfl (Nat.le_of_ble_eq_true rfl) rfl fun fx hfx => WK.top ?_
  simp only [impl, imp, argT, List.append_nil, List.map_nil, List.map_cons, List.nil_append, List.cons_append, List.length_cons, List.length_nil, show Try.f9.ntmps = 36 from rfl, Nat.zero_add, Nat.reduceAdd]
  repeat' (first | refine WK.seq ?_ | refine WK.reg ?_ | refine IL.nil ?_ | refine WK.skip ?_ | refine WK.block ?_ | refine WK.drawnS (id := 6) mixed [3, 4] [7, 8, 11] [0, 0, 0, 0, 0, 0, 0, 0, 1, 2, 2, 2] [2, 1, 1, 1, 1, 1, 0, 0, 1, 2, 2, 2] (by decide +kernel) ?_ | refine DW.nil ?_ | (with_reducible refine IL.wr ?_ ?_; focus exact cW) | (with_reducible refine DW.wr ?_ ?_; focus exact cW) | refine IL.sg ttok ?_ | refine DW.re ttok ?_ | refine DW.rm ttok ?_ | refine DW.bk ttok ?_ | refine IL.cS ttok ent17 [.bor] true ?_ (hS := by exact txId_call _ _ _ _ _) | refine IL.cS ttok ent35 [.own, .bor] false ?_ (hS := by exact hfi) | refine DW.cS ttok ent36 [.own, .bor, .own] false ?_ (hS := by exact hin) | (refine WK.cn (fun h => ?_) (fun h => ?_); all_goals first | (simp only [reduceCtorEq] at h; done) | (simp only [hsA, hsD, hsE, ne_eq] at h; first | done | (exfalso; omega; done) | skip) | skip))
  all_goals try ((first | refine WK.ret ⟨.inr rfl, ?_⟩ | refine ⟨.inl rfl, ?_⟩ | refine ⟨.inl trivial, ?_⟩); refine Fin.o ?_ ?_ (h1 := by first | rfl | (simp only [go_sem, show Try.f9.results.toList = [.tmp 4, .tmp 5] from rfl, reduceIte] <;> rfl)); rotate_left 1; (focus (first | rfl | skip)); all_goals try with_reducible rfl)
  all_goals skip
def rdyE (v : List Vc.Ve) (e : EnV) : Bool := decide (Vc.getV v e.r = e.s - 1) && Vc.covV v e.d
def okE (e : EnV) : Prop := Vc.Vec e.d ∧ (0 ≤ e.r ∧ e.r ≤ 65535) ∧ (1 ≤ e.s ∧ e.s ≤ 268435456) ∧ e.d.length ≤ 1000
theorem take_none (l : List EnV) (v : List Vc.Ve) (hv : Vc.Vec v) (hvl : v.length ≤ 100000) (hl : ∀ x ∈ l, okE x) (hn : l.length ≤ 100000) (hno : ∀ x ∈ l, rdyE v x = false) :
    SCall Try.prog 11 [bufO l, .tr v.length (encs Vc.veC v)] (.tup [.agg (enL .emp 0 0 0 0 .emp), .v (.bool false)]) [bufO l, .tr v.length (encs Vc.veC v)] := by
  refine SCall.of_body' (TT := TT) (fun k => decide (k < 1)) [false, false] ttok Try.func11 rfl (Nat.le_of_ble_eq_true rfl) rfl fun fx hfx => WK.top ?_
  simp only [impl, imp, argT, List.append_nil, List.map_nil, List.map_cons, List.nil_append, List.cons_append, List.length_cons, List.length_nil, show Try.f11.ntmps = 47 from rfl, Nat.zero_add, Nat.reduceAdd]
  repeat' (first | refine WK.seq ?_ | refine WK.reg ?_ | refine IL.nil ?_ | refine WK.skip ?_ | (with_reducible refine IL.wr ?_ ?_; focus exact cW) | refine IL.sg ttok ?_ | refine IL.cS ttok ent37 [.bor, .bor] true ?_ (hS := by exact hrd) | refine IL.cS ttok ent38 [.own, .bor, .bor] false ?_ (hS := by exact hde) | (refine WK.cn (fun h => ?_) (fun h => ?_); all_goals first | (simp only [reduceCtorEq] at h; done) | (simp only [hsA, hsD, hsE, ne_eq] at h; first | done | (exfalso; omega; done) | skip) | skip))
  refine WK.gotoL (α := Nat) 0 (rest := _) rfl (fun x => l.length - x) (fun x => x ≤ l.length) (fun x => ⟨47, [(0, .ptr 0 0 0), (1, .tr v.length (encs Vc.veC v)), (4, .ptr 4 0 0), (5, .v (.bool false)), (6, .v (.int .i64 x))], [some ⟨false, 0, 1, false, [.sl 1 0 0 l.length], 0, false⟩, some ⟨true, 36, l.length, false, encs envC l, 0, false⟩, some ⟨true, 109, 0, false, [], 0, false⟩, some ⟨true, 89, 0, true, [], 0, false⟩, some ⟨false, 36, 1, false, enL (.sl 3 0 0 0) 0 0 0 0 (.sl 2 0 0 0), 0, false⟩]⟩) ?_ ?_
  · intro k hk
    rcases Nat.eq_or_lt_of_le hk with rfl | hk
    · repeat' (first | refine WK.seq ?_ | refine WK.reg ?_ | refine IL.nil ?_ | refine WK.skip ?_ | (with_reducible refine IL.wr ?_ ?_; focus exact cW) | refine IL.sg ttok ?_ | refine IL.cS ttok ent37 [.bor, .bor] true ?_ (hS := by exact hrd) | refine IL.cS ttok ent38 [.own, .bor, .bor] false ?_ (hS := by exact hde) | (refine WK.cn (fun h => ?_) (fun h => ?_); all_goals first | (simp only [reduceCtorEq] at h; done) | (simp only [hsA, hsD, hsE, ne_eq] at h; first | done | (exfalso; omega; done) | skip) | skip))
      all_goals try ((first | refine WK.ret ⟨.inr rfl, ?_⟩ | refine ⟨.inl rfl, ?_⟩ | refine ⟨.inl trivial, ?_⟩); refine Fin.o ?_ ?_ (h1 := by first | rfl | (simp only [go_sem, show Try.f11.results.toList = [.cell 4 36, .tmp 5] from rfl, reduceIte] <;> rfl)); rotate_left 1; (focus (first | rfl | skip)); all_goals try with_reducible rfl)
      all_goals first | rfl | skip
    · have hx : l[k]? = some l[k] := List.getElem?_eq_getElem hk
      have hle : k * 6 + 6 ≤ l.length * 6 := by omega
      have hat : ((encs envC l).drop (k * 6)).take 6 = envC l[k] := encs_at envC_length hx
      have hne : encs envC l ≠ [] := encs_ne envC_length (by decide) hx
      have ho := hl _ (List.getElem_mem hk)
      have hrd := ready_call l[k].d v l[k].r l[k].s l[k].c l[k].u l[k].ops ho.1 hv ho.2.1 ho.2.2.1 ho.2.2.2 hvl
      have hr0 := hno _ (List.getElem_mem hk)
      unfold rdyE at hr0
      rw [hr0] at hrd
      rw [envC_eq] at hat
      clear hr0 ho hx
      generalize l[k] = x at *
      have FX := And.intro hat hle
      repeat' (first | refine WK.seq ?_ | refine WK.reg ?_ | refine IL.nil ?_ | refine WK.skip ?_ | (with_reducible refine IL.wr ?_ ?_; focus exact cW) | refine IL.sgF ttok ?_ | refine IL.cSF ttok ent37 [.bor, .bor] true ?_ (hS := by exact hrd) | refine IL.cSF ttok ent38 [.own, .bor, .bor] false ?_ (hS := by exact hde) | (refine WK.cn (fun h => ?_) (fun h => ?_); all_goals first | (simp only [reduceCtorEq] at h; done) | (simp only [hsA, hsD, hsE, ne_eq] at h; first | done | (exfalso; omega; done) | skip) | skip))
      refine WK.goto ⟨rfl, k + 1, by omega, by omega, ?_⟩
      (refine Weak.cut' rfl rfl ?_; exact cA)
  · intro again
    repeat' (first | refine WK.seq ?_ | refine WK.reg ?_ | refine IL.nil ?_ | refine WK.skip ?_ | (with_reducible refine IL.wr ?_ ?_; focus exact cW) | refine IL.sg ttok ?_ | refine IL.cS ttok ent37 [.bor, .bor] true ?_ (hS := by exact hrd) | refine IL.cS ttok ent38 [.own, .bor, .bor] false ?_ (hS := by exact hde) | (refine WK.cn (fun h => ?_) (fun h => ?_); all_goals first | (simp only [reduceCtorEq] at h; done) | (simp only [hsA, hsD, hsE, ne_eq] at h; first | done | (exfalso; omega; done) | skip) | skip))
    refine WK.label ?_
    refine again _ 0 (Nat.zero_le _) ?_
    (refine Weak.cut' rfl rfl ?_; exact cA)
theorem take_some (l : List EnV) (v : List Vc.Ve) (hv : Vc.Vec v) (hvl : v.length ≤ 100000) (hl : ∀ x ∈ l, okE x) (hn : l.length ≤ 100000) (K : Nat) (e : EnV) (hK : l[K]? = some e) (hre : rdyE v e = true) (hno : ∀ j x, j < K → l[j]? = some x → rdyE v x = false) :
    SCall Try.prog 11 [bufO l, .tr v.length (encs Vc.veC v)] (.tup [.agg (envC e), .v (.bool true)]) [bufO (l.take K ++ l.drop (K + 1)), .tr v.length (encs Vc.veC v)] := by
  have hKl : K < l.length := (List.getElem?_eq_some_iff.1 hK).1
  have hde := edel_call l K hKl (by omega)
  have hdl : (l.take K ++ l.drop (K + 1)).length = K + (l.length - (K + 1)) := by simp only [List.length_append, List.length_take, List.length_drop]; omega
  unfold bufO
  rw [hdl]
  generalize encs envC (l.take K ++ l.drop (K + 1)) = Z at *
  refine SCall.of_body' (TT := TT) (fun k => decide (k < 1)) [false, false] ttok Try.func11 rfl (Nat.le_of_ble_eq_true rfl) rfl fun fx hfx => WK.top ?_
  simp only [impl, imp, argT, List.append_nil, List.map_nil, List.map_cons, List.nil_append, List.cons_append, List.length_cons, List.length_nil, show Try.f11.ntmps = 47 from rfl, Nat.zero_add, Nat.reduceAdd]
  repeat' (first | refine WK.seq ?_ | refine WK.reg ?_ | refine IL.nil ?_ | refine WK.skip ?_ | (with_reducible refine IL.wr ?_ ?_; focus exact cW) | refine IL.sg ttok ?_ | refine IL.cS ttok ent37 [.bor, .bor] true ?_ (hS := by exact hrd) | refine IL.cS ttok ent38 [.own, .bor, .bor] false ?_ (hS := by exact hde) | (refine WK.cn (fun h => ?_) (fun h => ?_); all_goals first | (simp only [reduceCtorEq] at h; done) | (simp only [hsA, hsD, hsE, ne_eq] at h; first | done | (exfalso; omega; done) | skip) | skip))
  refine WK.gotoL (α := Nat) 0 (rest := _) rfl (fun x => l.length - x) (fun x => x ≤ K) (fun x => ⟨47, [(0, .ptr 0 0 0), (1, .tr v.length (encs Vc.veC v)), (4, .ptr 4 0 0), (5, .v (.bool false)), (6, .v (.int .i64 x))], [some ⟨false, 0, 1, false, [.sl 1 0 0 l.length], 0, false⟩, some ⟨true, 36, l.length, false, encs envC l, 0, false⟩, some ⟨true, 109, 0, false, [], 0, false⟩, some ⟨true, 89, 0, true, [], 0, false⟩, some ⟨false, 36, 1, false, enL (.sl 3 0 0 0) 0 0 0 0 (.sl 2 0 0 0), 0, false⟩]⟩) ?_ ?_
  · intro k hk
    have hkl : k < l.length := by omega
    have hx : l[k]? = some l[k] := List.getElem?_eq_getElem hkl
    have hle : k * 6 + 6 ≤ l.length * 6 := by omega
    have hat : ((encs envC l).drop (k * 6)).take 6 = envC l[k] := encs_at envC_length hx
    have hne : encs envC l ≠ [] := encs_ne envC_length (by decide) hx
    have ho := hl _ (List.getElem_mem hkl)
    have hrd := ready_call l[k].d v l[k].r l[k].s l[k].c l[k].u l[k].ops ho.1 hv ho.2.1 ho.2.2.1 ho.2.2.2 hvl
    rw [envC_eq] at hat
    rw [envC_eq]
    rcases Nat.eq_or_lt_of_le hk with rfl | hk
    · obtain rfl : l[k] = e := Option.some.inj (hx.symm.trans hK)
      unfold rdyE at hre
      rw [hre] at hrd
      clear hre ho hx hK hno
      generalize l[k] = x at *
      have FX := And.intro hat hle
      repeat' (first | refine WK.seq ?_ | refine WK.reg ?_ | refine IL.nil ?_ | refine WK.skip ?_ | (with_reducible refine IL.wr ?_ ?_; focus exact cW) | refine IL.sgF ttok ?_ | refine IL.cSF ttok ent37 [.bor, .bor] true ?_ (hS := by exact hrd) | refine IL.cSF ttok ent38 [.own, .bor, .bor] false ?_ (hS := by exact hde) | (refine WK.cn (fun h => ?_) (fun h => ?_); all_goals first | (simp only [reduceCtorEq] at h; done) | (simp only [hsA, hsD, hsE, ne_eq] at h; first | done | (exfalso; omega; done) | skip) | skip))
      all_goals try ((first | refine WK.ret ⟨.inr rfl, ?_⟩ | refine ⟨.inl rfl, ?_⟩ | refine ⟨.inl trivial, ?_⟩); refine Fin.o ?_ ?_ (h1 := by first | rfl | (simp only [go_sem, show Try.f11.results.toList = [.cell 4 36, .tmp 5] from rfl, reduceIte] <;> rfl)); rotate_left 1; (focus (first | rfl | skip)); all_goals try with_reducible rfl)
      all_goals first | rfl | skip
    · have hr0 := hno k _ hk hx
      unfold rdyE at hr0
      rw [hr0] at hrd
      clear hr0 ho hx
      generalize l[k] = x at *
      have FX := And.intro hat hle
      repeat' (first | refine WK.seq ?_ | refine WK.reg ?_ | refine IL.nil ?_ | refine WK.skip ?_ | (with_reducible refine IL.wr ?_ ?_; focus exact cW) | refine IL.sgF ttok ?_ | refine IL.cSF ttok ent37 [.bor, .bor] true ?_ (hS := by exact hrd) | refine IL.cSF ttok ent38 [.own, .bor, .bor] false ?_ (hS := by exact hde) | (refine WK.cn (fun h => ?_) (fun h => ?_); all_goals first | (simp only [reduceCtorEq] at h; done) | (simp only [hsA, hsD, hsE, ne_eq] at h; first | done | (exfalso; omega; done) | skip) | skip))
      refine WK.goto ⟨rfl, k + 1, by omega, by omega, ?_⟩
      (refine Weak.cut' rfl rfl ?_; exact cA)
  · intro again
    repeat' (first | refine WK.seq ?_ | refine WK.reg ?_ | refine IL.nil ?_ | refine WK.skip ?_ | (with_reducible refine IL.wr ?_ ?_; focus exact cW) | refine IL.sg ttok ?_ | refine IL.cS ttok ent37 [.bor, .bor] true ?_ (hS := by exact hrd) | refine IL.cS ttok ent38 [.own, .bor, .bor] false ?_ (hS := by exact hde) | (refine WK.cn (fun h => ?_) (fun h => ?_); all_goals first | (simp only [reduceCtorEq] at h; done) | (simp only [hsA, hsD, hsE, ne_eq] at h; first | done | (exfalso; omega; done) | skip) | skip))
    refine WK.label ?_
    refine again _ 0 (Nat.zero_le _) ?_
    (refine Weak.cut' rfl rfl ?_; exact cA)
end Go.Proofs.Ytclhjcbnpdlgbaa
/- package vector: Join. -/
namespace Go.Proofs.Ytclhjcbnpdlgbaa.Vc
open Go Go.Lift
set_option maxHeartbeats 4000000
set_option linter.unusedSimpArgs false
set_option linter.unusedVariables false
attribute [local irreducible] WK IL IP IG IW DW

theorem srt_idx {l : List Ve} (hs : Srt l) (h0 : ∀ x ∈ l, 0 ≤ x.1) : ∀ (k : Nat) (x : Ve), l[k]? = some x → (k : Int) ≤ x.1
  | 0, x, hx => by have := h0 x (List.mem_of_getElem? hx); omega
  | k + 1, x, hx => by
    have hk : k < l.length := by have := (List.getElem?_eq_some_iff.1 hx).1; omega
    have hy : l[k]? = some l[k] := List.getElem?_eq_getElem hk
    have := srt_idx hs h0 k _ hy
    have := srt_lt hs (Nat.lt_succ_self k) hy hx
    omega
theorem Vec.len {l : List Ve} (h : Vec l) : l.length ≤ 65536 := by
  rcases Nat.eq_zero_or_pos l.length with h0 | h0
  · omega
  · have hx : l[l.length - 1]? = some l[l.length - 1] := List.getElem?_eq_getElem (by omega)
    have h1 := srt_idx h.s (fun x hx => (h.b x hx).1.1) _ _ hx
    have h2 := (h.b _ (List.getElem_mem (show l.length - 1 < l.length by omega))).1.2
    omega
def vrC (w : List Ve) : List IV := [.tr w.length (encs veC w)]
theorem vrC_length (w : List Ve) : (vrC w).length = 1 := rfl
instance : CellsT vrC 1 := ⟨fun _ => rfl, fun _ => rfl⟩
def joinM (v : List Ve) (ws : List (List Ve)) : List Ve := ws.foldl joinV v
theorem joinM_snoc (v : List Ve) (ws : List (List Ve)) (w : List Ve) : joinM v (ws ++ [w]) = joinV (joinM v ws) w := by unfold joinM; rw [List.foldl_append]; rfl
theorem joinM_vec : ∀ {ws : List (List Ve)} {v : List Ve}, Vec v → (∀ w ∈ ws, Vec w) → Vec (joinM v ws)
  | [], v, h, _ => h
  | w :: ws, v, h, hw => joinM_vec (ws := ws) (join_vec h (hw w (by simp))) fun u hu => hw u (by simp [hu])
theorem join_call (v : List Ve) (ws : List (List Ve)) (hv : Vec v) (hws : ∀ w ∈ ws, Vec w) (hn : ws.length ≤ 1000000) :
    SCall Try.prog 45 [.tr v.length (encs veC v), .tr ws.length (encs vrC ws)] (.own 89 (joinM v ws).length true (encs veC (joinM v ws))) [.tr v.length (encs veC v), .tr ws.length (encs vrC ws)] := by
  have hvl := hv.len
  have hcl := clone_any v (by omega)
  refine SCallG.toS ?_
  refine SCallG.of_body' (G := []) (TT := TT) (fun _ => false) [false, false] ttok Try.func45 rfl (Nat.le_of_ble_eq_true rfl) rfl fun fx hfx hgf => WK.top ?_
  simp only [impl, imp, argT, List.append_nil, List.map_nil, List.nil_append, show Try.f45.ntmps = 40 from rfl, Nat.zero_add, Nat.reduceAdd]
  repeat' (first | refine WK.seq ?_ | refine WK.reg ?_ | refine IL.nil ?_ | refine WK.skip ?_ | refine WK.block ?_ | refine WK.exit_here ?_ | refine WK.e1 ?_ | refine WK.e2 ?_ | refine WK.drawnS (id := 8) mixed [] [5] [0, 0, 0, 0, 0, 0, 1] [1, 1, 0, 0, 0, 0, 1] (by decide +kernel) ?_ | refine DW.nil ?_ | (with_reducible refine IL.wr ?_ ?_; focus exact cW) | (with_reducible refine DW.wr ?_ ?_; focus exact cW) | refine IL.sg ttok ?_ | refine DW.re ttok ?_ | refine DW.rm ttok ?_ | refine IL.cS ttok ent15 [.bor, .bor, .bor] true ?_ (hS := by exact hwi) | refine IL.cS ttok ent41 [.bor] true ?_ (hS := by exact hcl) | refine DW.cS ttok ent61 [.bor, .bor] true ?_ (hS := by exact hge) | (refine WK.cn (fun h => ?_) (fun h => ?_); all_goals first | (simp only [reduceCtorEq] at h; done) | (simp only [hsA, hsD, hsE, ne_eq] at h; first | done | (exfalso; omega; done) | skip) | skip))
  refine WK.forS ws.length (fun k => True) (fun k => ⟨40, [(5, .sl 0 0 0 (joinM v (ws.take k)).length), (12, .tr ws.length (encs vrC ws)), (13, .v (.int .i64 ws.length)), (14, .v (.int .i64 k))], [some ⟨true, 89, (joinM v (ws.take k)).length, true, encs veC (joinM v (ws.take k)), 0, false⟩]⟩) ⟨trivial, ?_⟩ (fun k hk ho => ?_) (fun ho => ?_)
  · (refine Weak.renS [1] hfx rfl ?_ ?_ rfl <;> (simp only [go_sem, reduceIte, exists_eq_left', exists_eq_left, Blk.mk.injEq, List.take_zero, joinM, List.foldl_nil] <;> (try and_intros) <;> first | rfl | omega))
  · have hw : ws[k]? = some ws[k] := List.getElem?_eq_getElem hk
    have htk : ws.take (k + 1) = ws.take k ++ [ws[k]] := by rw [List.take_add_one, hw]; rfl
    have ho : Vec (joinM v (ws.take k)) := joinM_vec hv fun w hw => hws w (List.mem_of_mem_take hw)
    have hvw := hws _ (List.getElem_mem hk)
    have hatw : (encs vrC ws)[k * 1 + 0]? = some (.tr ws[k].length (encs veC ws[k])) := encs_get vrC_length hw (by decide)
    rw [Nat.mul_one, Nat.add_zero] at hatw
    have hle : k * 1 + 1 ≤ ws.length * 1 := by omega
    have hne : encs vrC ws ≠ [] := encs_ne vrC_length (by decide) hw
    rw [htk, joinM_snoc]
    clear htk hw
    generalize ws[k] = w at *
    generalize joinM v (ws.take k) = out at *
    have hwl := hvw.len
    have FX := And.intro hatw hle
    repeat' (first | refine WK.seq ?_ | refine WK.reg ?_ | refine IL.nil ?_ | refine WK.skip ?_ | refine WK.block ?_ | refine WK.exit_here ?_ | refine WK.e1 ?_ | refine WK.e2 ?_ | refine WK.drawnS (id := 8) mixed [] [5] [0, 0, 0, 0, 0, 0, 1] [1, 1, 0, 0, 0, 0, 1] (by decide +kernel) ?_ | refine DW.nil ?_ | (with_reducible refine IL.wr ?_ ?_; focus exact cW) | (with_reducible refine DW.wr ?_ ?_; focus exact cW) | refine IL.sgF ttok ?_ | refine DW.reF ttok ?_ | refine DW.rmF ttok ?_ | refine IL.cSF ttok ent15 [.bor, .bor, .bor] true ?_ (hS := by exact hwi) | refine IL.cSF ttok ent41 [.bor] true ?_ (hS := by exact hcl) | refine DW.cSF ttok ent61 [.bor, .bor] true ?_ (hS := by exact hge) | (refine WK.cn (fun h => ?_) (fun h => ?_); all_goals first | (simp only [reduceCtorEq] at h; done) | (simp only [hsA, hsD, hsE, ne_eq] at h; first | done | (exfalso; omega; done) | skip) | skip))
    refine WK.forS w.length (fun j => True) (fun j => ⟨40, [(5, .sl 0 0 0 (joinV out (w.take j)).length), (12, .tr ws.length (encs vrC ws)), (13, .v (.int .i64 ws.length)), (14, .v (.int .i64 k)), (18, .tr w.length (encs veC w)), (19, .v (.int .i64 w.length)), (20, .v (.int .i64 j))], [some ⟨true, 89, (joinV out (w.take j)).length, true, encs veC (joinV out (w.take j)), 0, false⟩]⟩) ⟨trivial, ?_⟩ (fun j hj hj0 => ?_) (fun hj0 => ?_)
    · (refine Weak.renS [0] hfx rfl ?_ ?_ rfl <;> (simp only [go_sem, reduceIte, exists_eq_left', exists_eq_left, Blk.mk.injEq, List.take_zero, joinV, List.foldl_nil] <;> (try and_intros) <;> first | rfl | omega))
    · have hx : w[j]? = some w[j] := List.getElem?_eq_getElem hj
      have htj : w.take (j + 1) = w.take j ++ [w[j]] := by rw [List.take_add_one, hx]; rfl
      have hat : ((encs veC w).drop (j * 2)).take 2 = [.v (.int .u16 w[j].1), .v (.int .u32 w[j].2)] := encs_at veC_length hx
      have hlj : j * 2 + 2 ≤ w.length * 2 := by omega
      have hnw : encs veC w ≠ [] := encs_ne veC_length (by decide) hx
      have hxb := hvw.b _ (List.getElem_mem hj)
      have ho2 : Vec (joinV out (w.take j)) := (joinV_vec ho fun x hx => hvw.b x (List.mem_of_mem_take hx)).1
      rw [htj, joinV_snoc]
      clear htj hx
      generalize w[j] = x at *
      generalize joinV out (w.take j) = o2 at *
      have hol := ho2.len
      have hge := get_call o2 x.1 ho2.s ho2.ok.r hxb.1 (by omega)
      have hwi := with_call o2 x.1 x.2 ho2 hxb.1 (by omega) (by omega)
      unfold addV
      generalize getV o2 x.1 = g at *
      generalize withV o2 x.1 x.2 = o3 at *
      have FX := And.intro hat hlj
      repeat' (first | refine WK.seq ?_ | refine WK.reg ?_ | refine IL.nil ?_ | refine WK.skip ?_ | refine WK.block ?_ | refine WK.exit_here ?_ | refine WK.e1 ?_ | refine WK.e2 ?_ | refine WK.drawnS (id := 8) mixed [] [5] [0, 0, 0, 0, 0, 0, 1] [1, 1, 0, 0, 0, 0, 1] (by decide +kernel) ?_ | refine DW.nil ?_ | (with_reducible refine IL.wr ?_ ?_; focus exact cW) | (with_reducible refine DW.wr ?_ ?_; focus exact cW) | refine IL.sgF ttok ?_ | refine DW.reF ttok ?_ | refine DW.rmF ttok ?_ | refine IL.cSF ttok ent15 [.bor, .bor, .bor] true ?_ (hS := by exact hwi) | refine IL.cSF ttok ent41 [.bor] true ?_ (hS := by exact hcl) | refine DW.cSF ttok ent61 [.bor, .bor] true ?_ (hS := by exact hge) | (refine WK.cn (fun h => ?_) (fun h => ?_); all_goals first | (simp only [reduceCtorEq] at h; done) | (simp only [hsA, hsD, hsE, ne_eq] at h; first | done | (exfalso; omega; done) | skip) | skip))
      · rw [if_pos h]
        refine ⟨trivial, ?_⟩
        (refine Weak.renS [2] hfx rfl ?_ ?_ rfl <;> (simp only [go_sem, reduceIte, exists_eq_left', exists_eq_left, Blk.mk.injEq] <;> (try and_intros) <;> first | rfl | omega))
      · rw [if_neg (by omega)]
        refine ⟨trivial, ?_⟩
        (refine Weak.renS [0] hfx rfl ?_ ?_ rfl <;> (simp only [go_sem, reduceIte, exists_eq_left', exists_eq_left, Blk.mk.injEq] <;> (try and_intros) <;> first | rfl | omega))
    · rw [List.take_length]
      repeat' (first | refine WK.seq ?_ | refine WK.reg ?_ | refine IL.nil ?_ | refine WK.skip ?_ | refine WK.block ?_ | refine WK.exit_here ?_ | refine WK.e1 ?_ | refine WK.e2 ?_ | refine WK.drawnS (id := 8) mixed [] [5] [0, 0, 0, 0, 0, 0, 1] [1, 1, 0, 0, 0, 0, 1] (by decide +kernel) ?_ | refine DW.nil ?_ | (with_reducible refine IL.wr ?_ ?_; focus exact cW) | (with_reducible refine DW.wr ?_ ?_; focus exact cW) | refine IL.sg ttok ?_ | refine DW.re ttok ?_ | refine DW.rm ttok ?_ | refine IL.cS ttok ent15 [.bor, .bor, .bor] true ?_ (hS := by exact hwi) | refine IL.cS ttok ent41 [.bor] true ?_ (hS := by exact hcl) | refine DW.cS ttok ent61 [.bor, .bor] true ?_ (hS := by exact hge) | (refine WK.cn (fun h => ?_) (fun h => ?_); all_goals first | (simp only [reduceCtorEq] at h; done) | (simp only [hsA, hsD, hsE, ne_eq] at h; first | done | (exfalso; omega; done) | skip) | skip))
      refine ⟨trivial, ?_⟩
      (refine Weak.renS [0] hfx rfl ?_ ?_ rfl <;> (simp only [go_sem, reduceIte, exists_eq_left', exists_eq_left, Blk.mk.injEq] <;> (try and_intros) <;> first | rfl | omega))
  · rw [List.take_length]
    repeat' (first | refine WK.seq ?_ | refine WK.reg ?_ | refine IL.nil ?_ | refine WK.skip ?_ | refine WK.block ?_ | refine WK.exit_here ?_ | refine WK.e1 ?_ | refine WK.e2 ?_ | refine WK.drawnS (id := 8) mixed [] [5] [0, 0, 0, 0, 0, 0, 1] [1, 1, 0, 0, 0, 0, 1] (by decide +kernel) ?_ | refine DW.nil ?_ | (with_reducible refine IL.wr ?_ ?_; focus exact cW) | (with_reducible refine DW.wr ?_ ?_; focus exact cW) | refine IL.sg ttok ?_ | refine DW.re ttok ?_ | refine DW.rm ttok ?_ | refine IL.cS ttok ent15 [.bor, .bor, .bor] true ?_ (hS := by exact hwi) | refine IL.cS ttok ent41 [.bor] true ?_ (hS := by exact hcl) | refine DW.cS ttok ent61 [.bor, .bor] true ?_ (hS := by exact hge) | (refine WK.cn (fun h => ?_) (fun h => ?_); all_goals first | (simp only [reduceCtorEq] at h; done) | (simp only [hsA, hsD, hsE, ne_eq] at h; first | done | (exfalso; omega; done) | skip) | skip))
    all_goals try ((first | refine WK.ret ⟨.inr rfl, ?_⟩ | refine ⟨.inl rfl, ?_⟩ | refine ⟨.inl trivial, ?_⟩); refine Fin.o ?_ ?_ (h1 := by first | rfl | (simp only [go_sem, show Try.f45.results.toList = [.tmp 4] from rfl, reduceIte] <;> rfl)); rotate_left 1; (focus (first | rfl | skip)); all_goals try with_reducible rfl)
    all_goals skip
end Go.Proofs.Ytclhjcbnpdlgbaa.Vc
/- package hold: Wants. -/
namespace Go.Proofs.Ytclhjcbnpdlgbaa
open Go Go.Lift
set_option maxHeartbeats 4000000
set_option linter.unusedSimpArgs false
set_option linter.unusedVariables false
attribute [local irreducible] WK IL IP IG IW DW

def needV (a : List Vc.Ve) (e : EnV) : List Vc.Ve := Vc.joinM a [e.d, Vc.withV [] e.r (e.s - 1)]
def wantV (l : List EnV) : List Vc.Ve := l.foldl needV []
theorem wantV_snoc (l : List EnV) (e : EnV) : wantV (l ++ [e]) = needV (wantV l) e := by unfold wantV; rw [List.foldl_append]; rfl
theorem vec_nil : Vc.Vec [] := ⟨List.Pairwise.nil, by simp⟩
theorem needV_vec {a : List Vc.Ve} {e : EnV} (ha : Vc.Vec a) (he : okE e) : Vc.Vec (needV a e) := by
  refine Vc.joinM_vec ha fun w hw => ?_
  simp only [List.mem_cons, List.not_mem_nil, or_false] at hw
  rcases hw with rfl | rfl
  · exact he.1
  · exact Vc.withV_vec vec_nil he.2.1 (by have := he.2.2.1; omega)
theorem wantV_vec : ∀ (l : List EnV), (∀ x ∈ l, okE x) → Vc.Vec (wantV l) := by
  have key : ∀ (l : List EnV) (a : List Vc.Ve), Vc.Vec a → (∀ x ∈ l, okE x) → Vc.Vec (l.foldl needV a) := by
    intro l
    induction l with
    | nil => intro a ha _; exact ha
    | cons e l ih => intro a ha hl; exact ih _ (needV_vec ha (hl e (by simp))) fun x hx => hl x (by simp [hx])
  exact fun l hl => key l [] vec_nil hl
theorem wants_call (l : List EnV) (v : List Vc.Ve) (hv : Vc.Vec v) (hvl : v.length ≤ 100000) (hl : ∀ x ∈ l, okE x) (hn : l.length ≤ 100000) :
    SCall Try.prog 20 [bufO l, .tr v.length (encs Vc.veC v)] (.own 65 (Vc.lackV v (wantV l)).length true (encs Vc.gpC (Vc.lackV v (wantV l)))) [bufO l, .tr v.length (encs Vc.veC v)] := by
  refine SCall.of_body' (TT := TT) (fun k => decide (k < 1)) [false, false] ttok Try.func20 rfl (Nat.le_of_ble_eq_true rfl) rfl fun fx hfx => WK.top ?_
  simp only [impl, imp, argT, List.append_nil, List.map_nil, List.map_cons, List.nil_append, List.cons_append, List.length_cons, List.length_nil, show Try.f20.ntmps = 34 from rfl, Nat.zero_add, Nat.reduceAdd]
  repeat' (first | refine WK.seq ?_ | refine WK.reg ?_ | refine IL.nil ?_ | refine WK.skip ?_ | refine WK.block ?_ | refine WK.exit_here ?_ | refine WK.e1 ?_ | refine WK.e2 ?_ | refine WK.drawnS (id := 5) mixed [] [10, 12] [0, 0, 0, 0, 0, 0, 0, 0, 0, 0, 0, 1, 1, 2] [1, 1, 1, 0, 0, 0, 0, 0, 0, 0, 0, 1, 1, 2] (by decide +kernel) ?_ | refine DW.nil ?_ | (with_reducible refine IL.wr ?_ ?_; focus exact cW) | (with_reducible refine DW.wr ?_ ?_; focus exact cW) | refine IL.sg ttok ?_ | refine DW.re ttok ?_ | refine DW.rm ttok ?_ | (refine DW.bst (T' := ?_) ttok rfl ?_ (fun K hK => ?_) ?_ ?_; rotate_left 1; (focus exact cG); (focus (simp only [go_sem, reduceIte]; exact cK hK)); (focus (first | exact ⟨_, rfl⟩ | rfl))) | refine DW.cS ttok ent15 [.bor, .bor, .bor] false ?_ (hS := by exact hwi) | refine DW.cS ttok ent45 [.bor, .bor] false ?_ (hS := by exact hjo) | refine IL.cS ttok ent46 [.bor, .bor] true ?_ (hS := by exact hla) | (refine WK.cn (fun h => ?_) (fun h => ?_); all_goals first | (simp only [reduceCtorEq] at h; done) | (simp only [hsA, hsD, hsE, ne_eq] at h; first | done | (exfalso; omega; done) | skip) | skip))
  refine WK.freeze (σ' := ?_) ttok 3 rfl rfl rfl ?_ ?_; rotate_left 1
  · simp only [go_sem, List.set_cons_zero, List.set_cons_succ]; rfl
  refine WK.forS l.length (fun k => True) (fun k => ⟨34, [(0, .ptr 0 0 0), (1, .tr v.length (encs Vc.veC v)), (5, .tr (wantV (l.take k)).length (encs Vc.veC (wantV (l.take k)))), (11, .sl 1 0 0 l.length), (12, .v (.int .i64 l.length)), (13, .v (.int .i64 k))], [some ⟨false, 0, 1, false, [.sl 1 0 0 l.length], 0, false⟩, some ⟨true, 36, l.length, false, encs envC l, 0, false⟩]⟩) ⟨trivial, ?_⟩ (fun k hk ho => ?_) (fun ho => ?_)
  · rw [List.take_zero, show wantV [] = [] from rfl]
    (refine Weak.renP 1 [0, 1] hfx (fun k h => of_decide_eq_true h) (fun k hk => by obtain rfl : k = 0 := (by omega); exact ⟨rfl, _, rfl, rfl⟩) rfl ?_ ?_ rfl <;> (simp only [go_sem, reduceIte, exists_eq_left', exists_eq_left, Blk.mk.injEq] <;> (try and_intros) <;> first | rfl | omega))
  · have hx : l[k]? = some l[k] := List.getElem?_eq_getElem hk
    have hle : k * 6 + 6 ≤ l.length * 6 := by omega
    have hat : ((encs envC l).drop (k * 6)).take 6 = envC l[k] := encs_at envC_length hx
    have hne : encs envC l ≠ [] := encs_ne envC_length (by decide) hx
    have htk : l.take (k + 1) = l.take k ++ [l[k]] := by rw [List.take_add_one, hx]; rfl
    have hok := hl _ (List.getElem_mem hk)
    have hwv := wantV_vec (l.take k) fun x hx => hl x (List.mem_of_mem_take hx)
    rw [htk, wantV_snoc]
    unfold needV
    rw [envC_eq] at hat
    clear htk hx
    generalize l[k] = e at *
    generalize wantV (l.take k) = a at *
    have hs1 := hok.2.2.1
    have hw1 : IntKind.u32.wrap (e.s - 1) = e.s - 1 := wrap_u32 (by omega) (by omega)
    have hwi := SCall.frz (Vc.with_call [] e.r (e.s - 1) vec_nil hok.2.1 (by omega) (by simp)) rfl
    have hwv2 := Vc.withV_vec vec_nil hok.2.1 (q := e.s - 1) (by omega)
    simp only [frzR] at hwi
    generalize Vc.withV [] e.r (e.s - 1) = y at *
    have hjo := SCall.frz (Vc.join_call a [e.d, y] hwv (fun w hw => by
      simp only [List.mem_cons, List.not_mem_nil, or_false] at hw
      rcases hw with rfl | rfl
      · exact hok.1
      · exact hwv2) (by simp)) rfl
    simp only [frzR] at hjo
    generalize Vc.joinM a [e.d, y] = z at *
    have FX := And.intro hat (And.intro hle hw1)
    repeat' (first | refine WK.seq ?_ | refine WK.reg ?_ | refine IL.nil ?_ | refine WK.skip ?_ | refine WK.block ?_ | refine WK.exit_here ?_ | refine WK.e1 ?_ | refine WK.e2 ?_ | refine WK.drawnS (id := 5) mixed [] [10, 12] [0, 0, 0, 0, 0, 0, 0, 0, 0, 0, 0, 1, 1, 2] [1, 1, 1, 0, 0, 0, 0, 0, 0, 0, 0, 1, 1, 2] (by decide +kernel) ?_ | refine DW.nil ?_ | (with_reducible refine IL.wr ?_ ?_; focus exact cW) | (with_reducible refine DW.wr ?_ ?_; focus exact cW) | refine IL.sgF ttok ?_ | refine DW.reF ttok ?_ | refine DW.rmF ttok ?_ | (refine DW.bst (T' := ?_) ttok rfl ?_ (fun K hK => ?_) ?_ ?_; rotate_left 1; (focus exact cG); (focus (simp only [go_sem, reduceIte, hat, hle, hw1]; exact cK hK)); (focus (first | exact ⟨_, rfl⟩ | rfl))) | refine DW.cSF ttok ent15 [.bor, .bor, .bor] false ?_ (hS := by exact hwi) | refine DW.cSF ttok ent45 [.bor, .bor] false ?_ (hS := by exact hjo) | refine IL.cSF ttok ent46 [.bor, .bor] true ?_ (hS := by exact hla) | (refine WK.cn (fun h => ?_) (fun h => ?_); all_goals first | (simp only [reduceCtorEq] at h; done) | (simp only [hsA, hsD, hsE, ne_eq] at h; first | done | (exfalso; omega; done) | skip) | skip))
    refine ⟨trivial, ?_⟩
    (refine Weak.renP 1 [0, 1] hfx (fun k h => of_decide_eq_true h) (fun k hk => by obtain rfl : k = 0 := (by omega); exact ⟨rfl, _, rfl, rfl⟩) rfl ?_ ?_ rfl <;> (simp only [go_sem, reduceIte, exists_eq_left', exists_eq_left, Blk.mk.injEq] <;> (try and_intros) <;> first | rfl | omega))
  · rw [List.take_length]
    have hwv := wantV_vec l hl
    have hla := Vc.lacks_call v (wantV l) hv.s hv.ok hwv.ok (by omega) (by have := hwv.len; omega)
    generalize wantV l = w at *
    generalize Vc.lackV v w = y at *
    repeat' (first | refine WK.seq ?_ | refine WK.reg ?_ | refine IL.nil ?_ | refine WK.skip ?_ | refine WK.block ?_ | refine WK.exit_here ?_ | refine WK.e1 ?_ | refine WK.e2 ?_ | refine WK.drawnS (id := 5) mixed [] [10, 12] [0, 0, 0, 0, 0, 0, 0, 0, 0, 0, 0, 1, 1, 2] [1, 1, 1, 0, 0, 0, 0, 0, 0, 0, 0, 1, 1, 2] (by decide +kernel) ?_ | refine DW.nil ?_ | (with_reducible refine IL.wr ?_ ?_; focus exact cW) | (with_reducible refine DW.wr ?_ ?_; focus exact cW) | refine IL.sg ttok ?_ | refine DW.re ttok ?_ | refine DW.rm ttok ?_ | (refine DW.bst (T' := ?_) ttok rfl ?_ (fun K hK => ?_) ?_ ?_; rotate_left 1; (focus exact cG); (focus (simp only [go_sem, reduceIte]; exact cK hK)); (focus (first | exact ⟨_, rfl⟩ | rfl))) | refine DW.cS ttok ent15 [.bor, .bor, .bor] false ?_ (hS := by exact hwi) | refine DW.cS ttok ent45 [.bor, .bor] false ?_ (hS := by exact hjo) | refine IL.cS ttok ent46 [.bor, .bor] true ?_ (hS := by exact hla) | (refine WK.cn (fun h => ?_) (fun h => ?_); all_goals first | (simp only [reduceCtorEq] at h; done) | (simp only [hsA, hsD, hsE, ne_eq] at h; first | done | (exfalso; omega; done) | skip) | skip))
    all_goals try ((first | refine WK.ret ⟨.inr rfl, ?_⟩ | refine ⟨.inl rfl, ?_⟩ | refine ⟨.inl trivial, ?_⟩); refine Fin.o ?_ ?_ (h1 := by first | rfl | (simp only [go_sem, show Try.f20.results.toList = [.tmp 4] from rfl, reduceIte] <;> rfl)); rotate_left 1; (focus (first | rfl | skip)); all_goals try with_reducible rfl)
    all_goals skip
end Go.Proofs.Ytclhjcbnpdlgbaa
/- the document's example of a buffer; the first of a name. -/
namespace Go.Proofs.Ytclhjcbnpdlgbaa
open Go Go.Lift
set_option maxHeartbeats 4000000
set_option linter.unusedSimpArgs false
set_option linter.unusedVariables false
attribute [local irreducible] WK IL IP IG IW DW

def plO : OpV := ⟨1, 0, 0, 1, [97], [], 0⟩
def plE (r s : Int) : EnV := ⟨[], r, s, 1, 0, [plO]⟩
abbrev plJ (r s : Int) : IV := .agg (enL (.tr 0 []) r s 1 0 (.tr 1 [.v (.int .i64 1), .v (.int .u16 0), .v (.int .u32 0), .v (.int .u32 1), .v (.string ⟨[97].toArray⟩), .emp, .v (.int .u32 0)]))
theorem plE_call (r s : Int) : SCall Try.prog 31 [.v (.int .u16 r), .v (.int .u32 s)] (.ago (enL .emp r s 1 0 (.own 109 1 false [.v (.int .i64 1), .v (.int .u16 0), .v (.int .u32 0), .v (.int .u32 1), .v (.string ⟨[97].toArray⟩), .emp, .v (.int .u32 0)]))) [.v (.int .u16 r), .v (.int .u32 s)] := by
  refine SCall.of_body' (TT := TT) (fun _ => false) [false, false] ttok Try.func31 rfl (Nat.le_of_ble_eq_true rfl) rfl fun fx hfx => WK.top ?_
  simp only [impl, imp, argT, List.append_nil, List.map_nil, List.nil_append, show Try.f31.ntmps = 11 from rfl, Nat.zero_add, Nat.reduceAdd]
  repeat' (first | refine WK.seq ?_ | refine WK.reg ?_ | refine IL.nil ?_ | (with_reducible refine IL.wr ?_ ?_; focus exact cW) | refine IL.sg ttok ?_)
  all_goals try ((first | refine WK.ret ⟨.inr rfl, ?_⟩ | refine ⟨.inl rfl, ?_⟩ | refine ⟨.inl trivial, ?_⟩); refine Fin.o ?_ ?_ (h1 := by first | rfl | (simp only [go_sem, show Try.f31.results.toList = [.cell 4 36] from rfl, reduceIte] <;> rfl)); rotate_left 1; (focus (first | rfl | skip)); all_goals try with_reducible rfl)
  all_goals first | rfl | skip
theorem pl_ok (r s : Int) (hr : 0 ≤ r ∧ r ≤ 65535) (hs : 1 ≤ s ∧ s ≤ 268435456) : okE (plE r s) := ⟨vec_nil, hr, hs, by simp [plE]⟩
theorem anchor11 : SCall Try.prog 6 [] (.v (.bool true)) [] := by
  have hp1 := SCall.frz (plE_call 1 2) rfl
  have hp2 := SCall.frz (plE_call 2 1) rfl
  simp only [frzR, frzRl] at hp1 hp2
  have n1 : nb (plE 1 2) := by unfold nb plE; decide
  have n2 : nb (plE 2 1) := by unfold nb plE; decide
  have k1 : kE (plE 1 2) = 4294967298 := rfl
  have k2 : kE (plE 2 1) = 8589934593 := rfl
  have e1 : putE [] (plE 1 2) = [plE 1 2] := rfl
  have q2 : posE [plE 1 2] (kE (plE 2 1)) = 1 := by unfold posE; rw [List.countP_cons, List.countP_nil, k1, k2]; rfl
  have e2 : putE [plE 1 2] (plE 2 1) = [plE 1 2, plE 2 1] := by unfold putE; rw [q2]; rfl
  have s1 : SrtE [plE 1 2] := List.pairwise_singleton _ _
  have hput1 := put_ok [] (plE 1 2) List.Pairwise.nil (by simp) n1 (by simp) rfl (by simp)
  have hput2 := put_ok [plE 1 2] (plE 2 1) s1 (fun x hx => by rw [List.mem_singleton.1 hx]; exact n1) n2 (by simp) (by unfold hasE; rw [q2]; rfl) (by simp)
  rw [e1] at hput1
  rw [e2] at hput2
  have hok : ∀ x ∈ [plE 1 2, plE 2 1], okE x := fun x hx => by
    simp only [List.mem_cons, List.not_mem_nil, or_false] at hx
    rcases hx with rfl | rfl
    · exact pl_ok 1 2 (by decide) (by decide)
    · exact pl_ok 2 1 (by decide) (by decide)
  have hwa := wants_call [plE 1 2, plE 2 1] [] vec_nil (by simp) hok (by simp)
  have hlv : Vc.lackV [] (wantV [plE 1 2, plE 2 1]) = [(1, 1, 1)] := by decide
  rw [hlv] at hwa
  have hta := take_some [plE 1 2, plE 2 1] [] vec_nil (by simp) hok (by simp) 1 (plE 2 1) rfl (by decide) (fun j x hj hx => by
    obtain rfl : j = 0 := by omega
    simp only [List.getElem?_cons_zero, Option.some.injEq] at hx
    subst hx; decide)
  have hput1 := SCall.weakAE [bufO [], plJ 1 2] hput1
  have hput2 := SCall.weakAE [bufO [plE 1 2], plJ 2 1] hput2
  generalize [plE 1 2, plE 2 1].take 1 ++ [plE 1 2, plE 2 1].drop (1 + 1) = W at *
  simp only [List.length_cons, List.length_nil, encs_cons, encs_nil, Nat.zero_add, List.append_nil, Vc.gpC, List.cons_append, List.nil_append] at hwa
  rw [envC_eq] at hta
  refine SCall.of_body' (TT := TT) (fun _ => false) [] ttok Try.func6 rfl (Nat.le_of_ble_eq_true rfl) rfl fun fx hfx => WK.top ?_
  simp only [impl, imp, argT, List.append_nil, List.map_nil, List.nil_append, show Try.f6.ntmps = 33 from rfl, Nat.zero_add, Nat.reduceAdd]
  repeat' (first | refine WK.seq ?_ | refine WK.reg ?_ | refine IL.nil ?_ | (with_reducible refine IL.wr ?_ ?_; focus exact cW) | refine IL.sg ttok ?_ | refine IL.nn ?_ | refine IL.cS ttok ent9 [.own, .bor] false ?_ (hS := by first | exact hput1 | exact hput2) | refine IL.cS ttok ent11 [.own, .bor] false ?_ (hS := by exact hta) | refine IL.cS ttok ent20 [.own, .bor] false ?_ (hS := by exact hwa) | refine IL.cS ttok ent31 [.bor, .bor] false ?_ (hS := by first | exact hp1 | exact hp2) | (((first | refine IL.ag (fun h => ?_) (fun h => ?_) | refine IL.ap (fun h => ?_) (fun h => ?_)); (fail_if_success (focus (simp only [reduceCtorEq] at h)))); all_goals first | (simp only [reduceCtorEq] at h; done) | (simp only [hsA, hsD, hsE, ne_eq] at h; first | done | (exfalso; omega; done) | skip) | skip))
  all_goals try ((first | refine WK.ret ⟨.inr rfl, ?_⟩ | refine ⟨.inl rfl, ?_⟩ | refine ⟨.inl trivial, ?_⟩); refine Fin.o ?_ ?_ (h1 := by first | rfl | (simp only [go_sem, show Try.f6.results.toList = [.tmp 0] from rfl, reduceIte] <;> rfl)); rotate_left 1; (focus (first | rfl | skip)); all_goals try with_reducible rfl)
  all_goals exact absurd rfl h
end Go.Proofs.Ytclhjcbnpdlgbaa
/- what waits, plain: names in order, first ones. -/
namespace Go.Proofs.Ytclhjcbnpdlgbaa
open Go Go.Lift
set_option maxHeartbeats 4000000
set_option linter.unusedSimpArgs false
set_option linter.unusedVariables false

theorem okE_nb {e : EnV} (h : okE e) : nb e := ⟨h.2.1, by have := h.2.2.1; omega⟩
theorem hasE_iff {l : List EnV} (hs : SrtE l) (K : Int) : hasE l K = true ↔ ∃ x ∈ l, kE x = K := by
  unfold hasE
  constructor
  · intro h
    split at h
    · rename_i x hx
      exact ⟨x, List.mem_of_getElem? hx, by simpa using h⟩
    · cases h
  · rintro ⟨x, hx, hk⟩
    obtain ⟨i, hi, rfl⟩ := List.mem_iff_getElem.1 hx
    have h1 := posE_iff hs i _ (List.getElem?_eq_getElem hi) (r := K)
    have hge : posE l K ≤ i := by omega
    have hp : posE l K < l.length := by omega
    have h2 := posE_iff hs (posE l K) _ (List.getElem?_eq_getElem hp) (r := K)
    have hle : ¬ posE l K < i := fun h => by
      have := List.pairwise_iff_getElem.1 hs (posE l K) i hp hi h
      omega
    obtain rfl : i = posE l K := by omega
    rw [List.getElem?_eq_getElem hi]
    simpa using hk
theorem mem_putE {l : List EnV} {e x : EnV} : x ∈ putE l e ↔ x = e ∨ x ∈ l := by
  unfold putE
  rw [List.mem_append, List.mem_append, List.mem_singleton]
  have h : x ∈ l ↔ x ∈ l.take (posE l (kE e)) ∨ x ∈ l.drop (posE l (kE e)) := by rw [← List.mem_append, List.take_append_drop]
  rw [h]
  constructor
  · rintro (h | h | h)
    · exact .inr (.inl h)
    · exact .inl h
    · exact .inr (.inr h)
  · rintro (h | h | h)
    · exact .inr (.inl h)
    · exact .inl h
    · exact .inr (.inr h)
theorem putE_srt {l : List EnV} {e : EnV} (hs : SrtE l) (hno : hasE l (kE e) = false) : SrtE (putE l e) := by
  have hne : ∀ x ∈ l, kE x ≠ kE e := fun x hx hk => by
    have := (hasE_iff hs (kE e)).2 ⟨x, hx, hk⟩
    rw [hno] at this; cases this
  have h1 : ∀ x ∈ l.take (posE l (kE e)), kE x < kE e := fun x hx => by
    obtain ⟨i, hi, rfl⟩ := List.mem_iff_getElem.1 hx
    rw [List.getElem_take]
    rw [List.length_take] at hi
    exact (posE_iff hs i _ (List.getElem?_eq_getElem (by omega)) (r := kE e)).2 (by omega)
  have h2 : ∀ x ∈ l.drop (posE l (kE e)), kE e < kE x := fun x hx => by
    have hm := List.mem_of_mem_drop hx
    obtain ⟨i, hi, rfl⟩ := List.mem_iff_getElem.1 hx
    rw [List.length_drop] at hi
    rw [List.getElem_drop] at hm ⊢
    have h3 := (posE_iff hs (posE l (kE e) + i) _ (List.getElem?_eq_getElem (by omega)) (r := kE e))
    have h4 := hne _ hm
    omega
  unfold SrtE putE
  rw [List.pairwise_append]
  refine ⟨hs.sublist (List.take_sublist _ _), ?_, fun a ha b hb => ?_⟩
  · rw [List.singleton_append, List.pairwise_cons]
    exact ⟨h2, hs.sublist (List.drop_sublist _ _)⟩
  · rw [List.mem_append, List.mem_singleton] at hb
    rcases hb with rfl | hb
    · exact h1 a ha
    · exact Int.lt_trans (h1 a ha) (h2 b hb)
def stpE (B : List EnV) (e : EnV) : List EnV := if hasE B (kE e) = true then B else putE B e
structure Buf (p B : List EnV) : Prop where
  s : SrtE B
  ok : ∀ x ∈ B, okE x
  len : B.length ≤ p.length
  fst : ∀ x ∈ B, p.find? (fun y => decide (kE y = kE x)) = some x
  all : ∀ y ∈ p, ∃ x ∈ B, kE x = kE y
theorem Buf.nil : Buf [] [] := ⟨List.Pairwise.nil, by simp, Nat.le_refl _, by simp, by simp⟩
theorem Buf.put {p B : List EnV} {e : EnV} (h : Buf p B) (he : okE e) : Buf (p ++ [e]) (stpE B e) := by
  unfold stpE
  by_cases hh : hasE B (kE e) = true
  · rw [if_pos hh]
    obtain ⟨x, hx, hk⟩ := (hasE_iff h.s _).1 hh
    refine ⟨h.s, h.ok, by have := h.len; rw [List.length_append]; omega, fun x hx => ?_, fun y hy => ?_⟩
    · rw [List.find?_append, h.fst x hx]; rfl
    · rcases List.mem_append.1 hy with hy | hy
      · exact h.all y hy
      · rw [List.mem_singleton.1 hy]; exact ⟨x, hx, hk⟩
  · rw [if_neg hh]
    have hno : hasE B (kE e) = false := Bool.eq_false_iff.2 hh
    have hnk : ∀ y ∈ p, kE y ≠ kE e := fun y hy hk => by
      obtain ⟨x, hx, hxk⟩ := h.all y hy
      exact hh ((hasE_iff h.s _).2 ⟨x, hx, hxk.trans hk⟩)
    refine ⟨putE_srt h.s hno, fun x hx => ?_, by have := h.len; rw [putE_len, List.length_append, List.length_singleton]; omega, fun x hx => ?_, fun y hy => ?_⟩
    · rcases mem_putE.1 hx with rfl | hx
      · exact he
      · exact h.ok x hx
    · rcases mem_putE.1 hx with rfl | hx
      · have h0 : p.find? (fun y => decide (kE y = kE x)) = none := List.find?_eq_none.2 fun y hy => by simpa using hnk y hy
        rw [List.find?_append, h0]; simp
      · rw [List.find?_append, h.fst x hx]; rfl
    · rcases List.mem_append.1 hy with hy | hy
      · obtain ⟨x, hx, hk⟩ := h.all y hy
        exact ⟨x, mem_putE.2 (.inr hx), hk⟩
      · rw [List.mem_singleton.1 hy]; exact ⟨e, mem_putE.2 (.inl rfl), rfl⟩
theorem rdy_cases (v : List Vc.Ve) : ∀ B : List EnV, (∀ x ∈ B, rdyE v x = false) ∨ ∃ (K : Nat) (e : EnV), B[K]? = some e ∧ rdyE v e = true ∧ ∀ (j : Nat) (x : EnV), j < K → B[j]? = some x → rdyE v x = false
  | [] => .inl (by simp)
  | b :: B => by
    by_cases hb : rdyE v b = true
    · exact .inr ⟨0, b, rfl, hb, fun j x hj => by omega⟩
    · rcases rdy_cases v B with h | ⟨K, e, h1, h2, h3⟩
      · refine .inl fun x hx => ?_
        rcases List.mem_cons.1 hx with rfl | hx
        · exact Bool.eq_false_iff.2 hb
        · exact h x hx
      · refine .inr ⟨K + 1, e, by simpa using h1, h2, fun j x hj hx => ?_⟩
        cases j with
        | zero => simp at hx; subst hx; exact Bool.eq_false_iff.2 hb
        | succ j => exact h3 j x (by omega) (by simpa using hx)
theorem mem_without {B : List EnV} {K : Nat} {x : EnV} (h : x ∈ B.take K ++ B.drop (K + 1)) : x ∈ B := by
  rcases List.mem_append.1 h with h | h
  · exact List.mem_of_mem_take h
  · exact List.mem_of_mem_drop h
theorem without_len {B : List EnV} {K : Nat} (h : K < B.length) : (B.take K ++ B.drop (K + 1)).length + 1 = B.length := by
  simp only [List.length_append, List.length_take, List.length_drop]; omega
open Classical in
theorem smallE_ok {e : EnV} (hw : wfD e.d) (hr : 0 ≤ e.r ∧ e.r ≤ 65535) (h : smallE e.d e.r e.s e.c e.u e.ops) : okE e := by
  obtain ⟨⟨h1, h2⟩, h3⟩ := h
  obtain ⟨f1, f2, f3⟩ := fit10_ok h3
  have f4 := fit9_ok f3
  exact ⟨Vc.Vec.of f1 fun x hx => (hw x hx).1, hr, ⟨f4.1, f4.2.1⟩, by omega⟩
end Go.Proofs.Ytclhjcbnpdlgbaa
/- HoldDrains: its function. -/
namespace Go.Proofs.Ytclhjcbnpdlgbaa
open Go Go.Lift
set_option maxHeartbeats 8000000
set_option linter.unusedSimpArgs false
set_option linter.unusedVariables false
attribute [local irreducible] WK IL IP IG IW DW

structure GE (e : EnV) : Prop where
  d : wfD e.d
  n : nb e
  o : ∀ o ∈ e.ops, wfC o
  d8 : e.d.length * 8 ≤ 140737488355328
  o72 : e.ops.length * 72 ≤ 140737488355328
  s16 : ∀ o ∈ e.ops, o.s.length * 16 ≤ 140737488355328
  t : ∀ o ∈ e.ops, o.t.length ≤ 9223372036854775807 ∧ o.s.length ≤ 9223372036854775807
theorem bgE {l : List EnV} {k : Nat} (h : k < l.length) : l.take (k + 1) = l.take k ++ [l[k]] := by
  rw [List.take_add_one, List.getElem?_eq_getElem h]; rfl
def bufK (l : List EnV) (k : Nat) : List EnV := (l.take k).foldl stpE []
theorem bufK_succ {l : List EnV} {k : Nat} (h : k < l.length) : bufK l (k + 1) = stpE (bufK l k) l[k] := by
  unfold bufK; rw [bgE h, List.foldl_append]; rfl
end Go.Proofs.Ytclhjcbnpdlgbaa
/- what any row of envelopes is. -/
namespace Go.Proofs.Ytclhjcbnpdlgbaa
open Go Go.Lift Go.ChangeShapes Go.WideShapes Go.RowKit
set_option linter.unusedVariables false
theorem ops_of {x : IV} (h : Ty (.row [.int .i64, .int .u16, .int .u32, .int .u32, .str, .row [.int .u16, .int .u32, .int .i64], .int .u32]) x) : ∃ ops : List OpV, x = .tr ops.length (encs opC ops) ∧ ∀ o ∈ ops, (wfC o ∧ (0 ≤ o.r ∧ o.r ≤ 65535) ∧ ∀ x ∈ o.s, 0 ≤ x.1 ∧ x.1 ≤ 65535) ∧ o.t.length ≤ 9223372036854775807 ∧ o.s.length ≤ 9223372036854775807 := by
  obtain ⟨l, h1, _, h3⟩ := row_of (f := opC) (good := fun o => (wfC o ∧ (0 ≤ o.r ∧ o.r ≤ 65535) ∧ ∀ x ∈ o.s, 0 ≤ x.1 ∧ x.1 ≤ 65535) ∧ o.t.length ≤ 9223372036854775807 ∧ o.s.length ≤ 9223372036854775807) (fun c h1 => by
    obtain ⟨y1, ys1, rfl, a1, h1⟩ := h1.cons_inv
    obtain ⟨y2, ys2, rfl, a2, h1⟩ := h1.cons_inv
    obtain ⟨y3, ys3, rfl, a3, h1⟩ := h1.cons_inv
    obtain ⟨y4, ys4, rfl, a4, h1⟩ := h1.cons_inv
    obtain ⟨y5, ys5, rfl, a5, h1⟩ := h1.cons_inv
    obtain ⟨y6, ys6, rfl, a6, h1⟩ := h1.cons_inv
    obtain ⟨y7, ys7, rfl, a7, h1⟩ := h1.cons_inv
    obtain rfl := h1.nil_inv
    obtain ⟨k, rfl, w1⟩ := a1.int_inv
    obtain ⟨r, rfl, w2⟩ := a2.int_inv
    obtain ⟨n, rfl, w3⟩ := a3.int_inv
    obtain ⟨m, rfl, w4⟩ := a4.int_inv
    obtain ⟨t, rfl, w5⟩ := a5.str_inv
    obtain ⟨q, rfl, w7⟩ := a7.int_inv
    obtain ⟨l, rfl, hl, hg⟩ := row_of (f := spC) (good := fun s => ((0 ≤ s.2.1 ∧ s.2.1 ≤ 4294967295) ∧ (-9223372036854775808 ≤ s.2.2 ∧ s.2.2 ≤ 9223372036854775807)) ∧ (0 ≤ s.1 ∧ s.1 ≤ 65535)) (fun c hc => by
      obtain ⟨y1, ys1, rfl, a1, hc⟩ := hc.cons_inv
      obtain ⟨y2, ys2, rfl, a2, hc⟩ := hc.cons_inv
      obtain ⟨y3, ys3, rfl, a3, hc⟩ := hc.cons_inv
      obtain rfl := hc.nil_inv
      obtain ⟨r, rfl, w1⟩ := a1.int_inv
      obtain ⟨n, rfl, w2⟩ := a2.int_inv
      obtain ⟨k, rfl, w3⟩ := a3.int_inv
      exact ⟨(r, n, k), rfl, ⟨wf_u32 w2, wf_i64 w3⟩, wf_u16 w1⟩) a6
    refine ⟨⟨k, r, n, m, t.data.toList, l, q⟩, by rw [ba_eta t]; rfl, ⟨⟨(wf_u32 w3).1, wf_u32 w4, wf_u32 w7, fun x hx => (hg x hx).1⟩, wf_u16 w2, fun x hx => (hg x hx).2⟩, ?_, ?_⟩
    · unfold Go.maxLen at w5; simpa using w5
    · unfold Go.maxLen at hl; exact (by omega : l.length ≤ 9223372036854775807)) h
  exact ⟨l, h1, h3⟩
theorem deps_of {x : IV} (h : Ty (.row [.int .u16, .int .u32]) x) : ∃ d : List Vc.Ve, x = .tr d.length (encs Vc.veC d) ∧ d.length ≤ 9223372036854775807 ∧ wfD d := by
  obtain ⟨l, h1, h2, h3⟩ := row_of (f := Vc.veC) (good := fun s => (0 ≤ s.1 ∧ s.1 ≤ 65535) ∧ (0 ≤ s.2 ∧ s.2 ≤ 4294967295)) (fun c hc => by
    obtain ⟨y1, ys1, rfl, a1, hc⟩ := hc.cons_inv
    obtain ⟨y2, ys2, rfl, a2, hc⟩ := hc.cons_inv
    obtain rfl := hc.nil_inv
    obtain ⟨r, rfl, w1⟩ := a1.int_inv
    obtain ⟨n, rfl, w2⟩ := a2.int_inv
    exact ⟨(r, n), rfl, wf_u16 w1, wf_u32 w2⟩) h
  exact ⟨l, h1, by unfold Go.maxLen at h2; omega, h3⟩
theorem envs_of {x : IV} (h : Ty (.row [.row [.int .u16, .int .u32], .int .u16, .int .u32, .int .u64, .int .i64, .row [.int .i64, .int .u16, .int .u32, .int .u32, .str, .row [.int .u16, .int .u32, .int .i64], .int .u32]]) x) :
    ∃ l : List EnV, x = .tr l.length (encs envC l) ∧ l.length ≤ 9223372036854775807 ∧ ∀ e ∈ l, wfD e.d ∧ nb e ∧ ∀ o ∈ e.ops, (wfC o ∧ (0 ≤ o.r ∧ o.r ≤ 65535) ∧ ∀ x ∈ o.s, 0 ≤ x.1 ∧ x.1 ≤ 65535) ∧ o.t.length ≤ 9223372036854775807 ∧ o.s.length ≤ 9223372036854775807 := by
  obtain ⟨l, h1, h2, h3⟩ := row_of (f := envC) (good := fun e => wfD e.d ∧ nb e ∧ ∀ o ∈ e.ops, (wfC o ∧ (0 ≤ o.r ∧ o.r ≤ 65535) ∧ ∀ x ∈ o.s, 0 ≤ x.1 ∧ x.1 ≤ 65535) ∧ o.t.length ≤ 9223372036854775807 ∧ o.s.length ≤ 9223372036854775807) (fun c h1 => by
    obtain ⟨y0, ys0, rfl, a0, h1⟩ := h1.cons_inv
    obtain ⟨y1, ys1, rfl, a1, h1⟩ := h1.cons_inv
    obtain ⟨y2, ys2, rfl, a2, h1⟩ := h1.cons_inv
    obtain ⟨y3, ys3, rfl, a3, h1⟩ := h1.cons_inv
    obtain ⟨y4, ys4, rfl, a4, h1⟩ := h1.cons_inv
    obtain ⟨y5, ys5, rfl, a5, h1⟩ := h1.cons_inv
    obtain rfl := h1.nil_inv
    obtain ⟨d, rfl, hdl, hdw⟩ := deps_of a0
    obtain ⟨r, rfl, w1⟩ := a1.int_inv
    obtain ⟨s, rfl, w2⟩ := a2.int_inv
    obtain ⟨c, rfl, w3⟩ := a3.int_inv
    obtain ⟨u, rfl, w4⟩ := a4.int_inv
    obtain ⟨ops, rfl, hg⟩ := ops_of a5
    exact ⟨⟨d, r, s, c, u, ops⟩, rfl, hdw, ⟨wf_u16 w1, wf_u32 w2⟩, hg⟩) h
  exact ⟨l, h1, by unfold Go.maxLen at h2; omega, h3⟩
theorem envs_ge {l : List EnV} (hg : ∀ e ∈ l, wfD e.d ∧ nb e ∧ ∀ o ∈ e.ops, (wfC o ∧ (0 ≤ o.r ∧ o.r ≤ 65535) ∧ ∀ x ∈ o.s, 0 ≤ x.1 ∧ x.1 ≤ 65535) ∧ o.t.length ≤ 9223372036854775807 ∧ o.s.length ≤ 9223372036854775807)
    (hz : ∀ i, i < l.length → Szl [.row 8 [.no, .no], .no, .no, .no, .no, .row 72 [.no, .no, .no, .no, .no, .row 16 [.no, .no, .no], .no]] (((encs envC l).drop (i * 6)).take 6)) : ∀ e ∈ l, GE e := fun e he => by
  obtain ⟨g1, g2, g3⟩ := hg e he
  obtain ⟨i, hi, rfl⟩ := List.mem_iff_getElem.1 he
  have h2 := hz i hi
  rw [encs_at envC_length (List.getElem?_eq_getElem hi)] at h2
  simp only [envC, enL, Szl, Sz] at h2
  have hb : reachBytes = 140737488351232 := rfl
  have k1 := (h2.1 _ _ rfl).1
  have k2 := h2.2.2.2.2.2.1 _ _ rfl
  rw [hb] at k1 k2
  refine ⟨g1, g2, fun o ho => (g3 o ho).1.1, by omega, by omega, fun o ho => ?_, fun o ho => (g3 o ho).2⟩
  obtain ⟨j, hj, rfl⟩ := List.mem_iff_getElem.1 ho
  have k3 := k2.2 j hj
  rw [show (([.no, .no, .no, .no, .no, .row 16 [.no, .no, .no], .no] : List WSh).length) = 7 from rfl, encs_at opC_length (List.getElem?_eq_getElem hj)] at k3
  simp only [opC, opL, Szl, Sz] at k3
  have := (k3.2.2.2.2.2.1 _ _ rfl).1
  omega
end Go.Proofs.Ytclhjcbnpdlgbaa
/- the envelopes that are past: Past, Drop. -/
namespace Go.Proofs.Ytclhjcbnpdlgbaa
open Go Go.Lift
set_option maxHeartbeats 4000000
set_option linter.unusedSimpArgs false
set_option linter.unusedVariables false
attribute [local irreducible] WK IL IP IG IW DW

def pastE (v : List Vc.Ve) (e : EnV) : Bool := decide (e.s ≤ Vc.getV v e.r)
theorem pastE_call (e : EnV) (v : List Vc.Ve) (he : okE e) (hv : Vc.Vec v) (hvl : v.length ≤ 100000) : SCall Try.prog 49 [.agg (envC e), .tr v.length (encs Vc.veC v)] (.v (.bool (pastE v e))) [.agg (envC e), .tr v.length (encs Vc.veC v)] := by
  have hcg := Vc.get_call v e.r hv.s hv.ok.r he.2.1 (by omega)
  unfold pastE
  rw [envC_eq]
  generalize Vc.getV v e.r = g at *
  refine SCall.of_body' (TT := TT) (fun _ => false) [false, false] ttok Try.func49 rfl (Nat.le_of_ble_eq_true rfl) rfl fun fx hfx => WK.top ?_
  simp only [impl, imp, argT, List.append_nil, List.map_nil, List.nil_append, show Try.f49.ntmps = 14 from rfl, Nat.zero_add, Nat.reduceAdd]
  repeat' (first | refine WK.seq ?_ | refine WK.reg ?_ | refine IL.nil ?_ | refine WK.drawnS (id := 1) mixed [] [4] [0, 0, 0, 0, 0, 0, 0, 0, 1, 1] [0, 0, 0, 0, 0, 1, 1, 1, 1, 1] (by decide +kernel) ?_ | refine DW.nil ?_ | (with_reducible refine IL.wr ?_ ?_; focus exact cW) | (with_reducible refine DW.wr ?_ ?_; focus exact cW) | refine IL.sg ttok ?_ | refine DW.re ttok ?_ | refine DW.rm ttok ?_ | refine DW.cS ttok ent61 [.bor, .bor] true ?_ (hS := by exact hcg))
  all_goals try ((first | refine WK.ret ⟨.inr rfl, ?_⟩ | refine ⟨.inl rfl, ?_⟩ | refine ⟨.inl trivial, ?_⟩); refine Fin.o ?_ ?_ (h1 := by first | rfl | (simp only [go_sem, show Try.f49.results.toList = [.tmp 4] from rfl, reduceIte] <;> rfl)); rotate_left 1; (focus (first | rfl | skip)); all_goals try with_reducible rfl)
  all_goals skip
theorem drop1_call (e : EnV) (v : List Vc.Ve) (he : okE e) (hv : Vc.Vec v) (hvl : v.length ≤ 100000) : SCall Try.prog 48 [.agg (envC e), .obj [.tr v.length (encs Vc.veC v)]] (.v (.bool (pastE v e))) [.agg (envC e), .obj [.tr v.length (encs Vc.veC v)]] := by
  have hpa := pastE_call e v he hv hvl
  rw [envC_eq] at hpa
  rw [envC_eq]
  generalize pastE v e = B at *
  generalize v.length = vn at *
  generalize encs Vc.veC v = vc at *
  refine SCallG.toS (SCallF.toG ?_)
  refine SCallF.of_body' (G := []) [] (TT := TT) (fun k => decide (k < 1)) [false, false] ttok Try.func48 rfl (Nat.le_of_ble_eq_true rfl) rfl fun fx hfx hgf => WK.top ?_
  simp only [impl, imp, argT, packIV, pk, List.take_succ_cons, List.drop_succ_cons, List.take_zero, List.drop_zero, List.append_nil, List.map_nil, List.map_cons, List.nil_append, List.cons_append, List.length_cons, List.length_nil, show Try.f48.ntmps = 7 from rfl, Nat.zero_add, Nat.reduceAdd]
  repeat' (first | refine WK.seq ?_ | refine WK.reg ?_ | refine IL.nil ?_ | (with_reducible refine IL.wr ?_ ?_; focus exact cW) | refine IL.sg ttok ?_ | refine IL.cS ttok ent49 [.bor, .bor] true ?_ (hS := by exact hpa))
  all_goals try ((first | refine WK.ret ⟨.inr rfl, ?_⟩ | refine ⟨.inl rfl, ?_⟩ | refine ⟨.inl trivial, ?_⟩); refine Fin.o ?_ ?_ (h1 := by first | rfl | (simp only [go_sem, show Try.f48.results.toList = [.tmp 3] from rfl, reduceIte] <;> rfl)); rotate_left 1; (focus (first | rfl | skip)); all_goals try with_reducible rfl)
  all_goals skip
def ixE (v : List Vc.Ve) (l : List EnV) : Int := match l.findIdx? (pastE v) with
  | some i => i
  | none => -1
theorem ixE_call (l : List EnV) (v : List Vc.Ve) (hl : ∀ x ∈ l, okE x) (hn : l.length ≤ 100000) (hv : Vc.Vec v) (hvl : v.length ≤ 100000) :
    SCallF [] Try.prog 69 [none, some (48, 1)] [.own 36 l.length false (encs envC l), .obj [.tr v.length (encs Vc.veC v)]] (.v (.int .i64 (ixE v l))) [.own 36 l.length false (encs envC l), .obj [.tr v.length (encs Vc.veC v)]] := by
  have hcm0 := fun e he => drop1_call e v he hv hvl
  have hF : ∀ (k : Nat) (hk : k < l.length), (∀ s ∈ l.take k, pastE v s = false) → pastE v l[k] = true → ixE v l = (k : Int) := fun k hk ho h => by
    unfold ixE
    have : l.findIdx? (pastE v) = some k := by
      rw [List.findIdx?_eq_some_iff_getElem]
      refine ⟨hk, h, fun j hj => ?_⟩
      rw [ho _ (List.mem_take_iff_getElem.2 ⟨j, by omega, rfl⟩)]; decide
    rw [this]
  have hN : (∀ s ∈ l, pastE v s = false) → ixE v l = -1 := fun h => by
    unfold ixE
    rw [List.findIdx?_eq_none_iff.2 fun s hs => by rw [h s hs]]
  generalize ixE v l = V at *
  generalize v.length = vn at *
  generalize encs Vc.veC v = vc at *
  refine SCallF.of_body' (G := []) [none, some (48, 1)] (TT := TT) (fun k => decide (k < 2)) [false, false] ttok Try.func69 rfl (Nat.le_of_ble_eq_true rfl) rfl fun fx hfx hgf => WK.top ?_
  simp only [impl, imp, argT, packIV, pk, List.take_succ_cons, List.drop_succ_cons, List.take_zero, List.drop_zero, List.append_nil, List.map_nil, List.map_cons, List.nil_append, List.cons_append, List.length_cons, List.length_nil, show Try.f69.ntmps = 19 from rfl, Nat.zero_add, Nat.reduceAdd]
  repeat' (first | refine WK.seq ?_ | refine WK.reg ?_ | refine IL.nil ?_ | refine WK.skip ?_ | refine WK.block ?_ | refine WK.exit_here ?_ | refine WK.e1 ?_ | refine WK.e2 ?_ | (with_reducible refine IL.wr ?_ ?_; focus exact cW) | refine IL.sg ttok ?_ | refine IL.cS ttok ent48 [.bor, .own] false ?_ (hS := by exact hcm) | (refine WK.cn (fun h => ?_) (fun h => ?_); all_goals first | (simp only [reduceCtorEq] at h; done) | (simp only [hsA, hsD, hsE, ne_eq] at h; first | done | (exfalso; omega; done) | skip) | skip))
  refine WK.forS l.length (fun k => ∀ s ∈ l.take k, pastE v s = false) (fun k => ⟨19, [(0, .sl 0 0 0 l.length), (1, .fn (.func 48) [.ptr 1 0 0]), (7, .v (.int .i64 l.length)), (8, .v (.int .i64 k))], [some ⟨true, 36, l.length, false, encs envC l, 0, false⟩, some ⟨false, 0, 1, false, [.tr vn vc], 0, false⟩]⟩) ⟨by simp, ?_⟩ (fun k hk ho => ?_) (fun ho => ?_)
  · (refine Weak.renP 2 [0, 1] hfx (fun k h => of_decide_eq_true h) (fun k hk => by rcases (show k = 0 ∨ k = 1 by omega) with rfl | rfl <;> exact ⟨rfl, _, rfl, rfl⟩) rfl ?_ ?_ rfl <;> (simp only [go_sem, reduceIte, exists_eq_left', exists_eq_left, Blk.mk.injEq] <;> (try and_intros) <;> first | rfl | omega))
  · have hx : l[k]? = some l[k] := List.getElem?_eq_getElem hk
    have hyes := hF k hk ho
    have hno : pastE v l[k] = false → ∀ s ∈ l.take (k + 1), pastE v s = false := fun h s hs => by
      rw [List.take_add_one, hx] at hs
      rcases List.mem_append.1 hs with hs | hs
      · exact ho s hs
      · simp at hs; rw [hs]; exact h
    have hcm := hcm0 _ (hl _ (List.getElem_mem hk))
    have hle : k * 6 + 6 ≤ l.length * 6 := by omega
    have hat : ((encs envC l).drop (k * 6)).take 6 = envC l[k] := encs_at envC_length hx
    have hne : encs envC l ≠ [] := encs_ne envC_length (by decide) hx
    rw [envC_eq] at hat hcm
    clear hx hF hN hcm0
    generalize pastE v l[k] = B at *
    generalize l[k] = x at *
    cases B with
    | true =>
      rw [hyes rfl]
      have FX := And.intro hat hle
      repeat' (first | refine WK.seq ?_ | refine WK.reg ?_ | refine IL.nil ?_ | refine WK.skip ?_ | refine WK.block ?_ | refine WK.exit_here ?_ | refine WK.e1 ?_ | refine WK.e2 ?_ | (with_reducible refine IL.wr ?_ ?_; focus exact cW) | refine IL.sgF ttok ?_ | refine IL.cSF ttok ent48 [.bor, .own] false ?_ (hS := by exact hcm) | (refine WK.cn (fun h => ?_) (fun h => ?_); all_goals first | (simp only [reduceCtorEq] at h; done) | (simp only [hsA, hsD, hsE, ne_eq] at h; first | done | (exfalso; omega; done) | skip) | skip))
      all_goals try ((first | refine WK.ret ⟨.inr rfl, ?_⟩ | refine ⟨.inl rfl, ?_⟩ | refine ⟨.inl trivial, ?_⟩); refine Fin.o ?_ ?_ (h1 := by first | rfl | (simp only [go_sem, show Try.f69.results.toList = [.tmp 4] from rfl, reduceIte] <;> rfl)); rotate_left 1; (focus (first | rfl | skip)); all_goals try with_reducible rfl)
      all_goals skip
    | false =>
      have FX := And.intro hat hle
      repeat' (first | refine WK.seq ?_ | refine WK.reg ?_ | refine IL.nil ?_ | refine WK.skip ?_ | refine WK.block ?_ | refine WK.exit_here ?_ | refine WK.e1 ?_ | refine WK.e2 ?_ | (with_reducible refine IL.wr ?_ ?_; focus exact cW) | refine IL.sgF ttok ?_ | refine IL.cSF ttok ent48 [.bor, .own] false ?_ (hS := by exact hcm) | (refine WK.cn (fun h => ?_) (fun h => ?_); all_goals first | (simp only [reduceCtorEq] at h; done) | (simp only [hsA, hsD, hsE, ne_eq] at h; first | done | (exfalso; omega; done) | skip) | skip))
      refine ⟨hno rfl, ?_⟩
      (refine Weak.renP 2 [0, 1] hfx (fun k h => of_decide_eq_true h) (fun k hk => by rcases (show k = 0 ∨ k = 1 by omega) with rfl | rfl <;> exact ⟨rfl, _, rfl, rfl⟩) rfl ?_ ?_ rfl <;> (simp only [go_sem, reduceIte, exists_eq_left', exists_eq_left, Blk.mk.injEq] <;> (try and_intros) <;> first | rfl | omega))
  · rw [List.take_length] at ho
    rw [hN ho]
    repeat' (first | refine WK.seq ?_ | refine WK.reg ?_ | refine IL.nil ?_ | refine WK.skip ?_ | refine WK.block ?_ | refine WK.exit_here ?_ | refine WK.e1 ?_ | refine WK.e2 ?_ | (with_reducible refine IL.wr ?_ ?_; focus exact cW) | refine IL.sg ttok ?_ | refine IL.cS ttok ent48 [.bor, .own] false ?_ (hS := by exact hcm) | (refine WK.cn (fun h => ?_) (fun h => ?_); all_goals first | (simp only [reduceCtorEq] at h; done) | (simp only [hsA, hsD, hsE, ne_eq] at h; first | done | (exfalso; omega; done) | skip) | skip))
    all_goals try ((first | refine WK.ret ⟨.inr rfl, ?_⟩ | refine ⟨.inl rfl, ?_⟩ | refine ⟨.inl trivial, ?_⟩); refine Fin.o ?_ ?_ (h1 := by first | rfl | (simp only [go_sem, show Try.f69.results.toList = [.tmp 4] from rfl, reduceIte] <;> rfl)); rotate_left 1; (focus (first | rfl | skip)); all_goals try with_reducible rfl)
    all_goals skip
end Go.Proofs.Ytclhjcbnpdlgbaa
/- slices.DeleteFunc at the envelopes that are past. -/
namespace Go.Proofs.Ytclhjcbnpdlgbaa
open Go Go.Lift
set_option maxHeartbeats 4000000
set_option linter.unusedSimpArgs false
set_option linter.unusedVariables false
attribute [local irreducible] WK IL IP IG IW DW

theorem putAt_mid : ∀ (xs ys o t : List IV), xs.length = ys.length → putAt (o ++ (ys ++ t)) o.length xs = o ++ (xs ++ t)
  | [], ys, o, t, h => by
    have : ys = [] := List.eq_nil_of_length_eq_zero h.symm
    subst this; rfl
  | x :: xs, [], o, t, h => by simp at h
  | x :: xs, y :: ys, o, t, h => by
    have hs : (o ++ (y :: ys ++ t)).set o.length x = (o ++ [x]) ++ (ys ++ t) := by simp
    rw [putAt, hs]
    have := putAt_mid xs ys (o ++ [x]) t (by simpa using h)
    simp only [List.length_append, List.length_cons, List.length_nil, Nat.zero_add] at this
    rw [this]; simp
theorem take_putAt : ∀ (xs cs : List IV) (o p : Nat), p ≤ o → (putAt cs o xs).take p = cs.take p
  | [], cs, o, p, h => rfl
  | x :: xs, cs, o, p, h => by
    rw [putAt, take_putAt xs _ (o + 1) p (by omega), List.take_set_of_le h]
theorem encE_set (R : List EnV) (x : EnV) (i : Nat) (hi : i < R.length) : putAt (encs envC R) (i * 6) (envC x) = encs envC (R.set i x) := by
  have h1 : R = R.take i ++ (R[i] :: R.drop (i + 1)) := by rw [← List.drop_eq_getElem_cons hi, List.take_append_drop]
  have h2 : encs envC R = encs envC (R.take i) ++ (envC R[i] ++ encs envC (R.drop (i + 1))) := by
    conv => lhs; rw [h1]
    rw [← encs_append, encs_cons]
  have h3 : (encs envC (R.take i)).length = i * 6 := by rw [encs_length envC_length, List.length_take, Nat.min_eq_left (by omega)]
  rw [h2, ← h3, putAt_mid (envC x) (envC R[i]) _ _ rfl, List.set_eq_take_append_cons_drop, if_pos hi, ← encs_append, encs_cons]
def keepE (v : List Vc.Ve) (l : List EnV) : List EnV := l.filter fun e => !pastE v e
def DInv (v : List Vc.Ve) (l : List EnV) (i j : Nat) (R : List EnV) : Prop := i ≤ j ∧ j ≤ l.length ∧ R.length = l.length ∧ R.take i = keepE v (l.take j) ∧ R.drop j = l.drop j
theorem DInv.at {v : List Vc.Ve} {l R : List EnV} {i j : Nat} (h : DInv v l i j R) (hj : j < l.length) : R[j]? = some l[j] := by
  obtain ⟨_, _, h3, _, h5⟩ := h
  have := congrArg (fun z => z[0]?) h5
  simp only [List.getElem?_drop, Nat.add_zero] at this
  rw [this, List.getElem?_eq_getElem hj]
theorem DInv.past {v : List Vc.Ve} {l R : List EnV} {i j : Nat} (h : DInv v l i j R) (hj : j < l.length) (hp : pastE v l[j] = true) : DInv v l i (j + 1) R := by
  obtain ⟨h1, h2, h3, h4, h5⟩ := h
  refine ⟨by omega, by omega, h3, ?_, ?_⟩
  · unfold keepE at *
    rw [h4, List.take_add_one, List.getElem?_eq_getElem hj, List.filter_append]
    simp [hp]
  · have := congrArg (List.drop 1) h5
    simpa only [List.drop_drop] using this
theorem DInv.keep {v : List Vc.Ve} {l R : List EnV} {i j : Nat} (h : DInv v l i j R) (hj : j < l.length) (hp : pastE v l[j] = false) : DInv v l (i + 1) (j + 1) (R.set i l[j]) := by
  obtain ⟨h1, h2, h3, h4, h5⟩ := h
  have hi : i < R.length := by omega
  refine ⟨by omega, by omega, by simpa using h3, ?_, ?_⟩
  · unfold keepE at *
    rw [List.take_add_one (i := j), List.getElem?_eq_getElem hj, List.filter_append, ← h4, List.take_add_one, List.take_set_of_le (Nat.le_refl i)]
    simp [hp, hi]
  · have := congrArg (List.drop 1) h5
    rw [List.drop_set_of_lt (by omega)]
    simpa only [List.drop_drop] using this
theorem DInv.init {v : List Vc.Ve} {l : List EnV} {i : Nat} (hi : l.findIdx? (pastE v) = some i) : i < l.length ∧ DInv v l i (i + 1) l := by
  obtain ⟨h1, h2, h3⟩ := List.findIdx?_eq_some_iff_getElem.1 hi
  refine ⟨h1, by omega, by omega, rfl, ?_, rfl⟩
  unfold keepE
  rw [List.take_add_one, List.getElem?_eq_getElem h1, List.filter_append]
  simp only [Option.toList_some, List.filter_cons, h2, Bool.not_true, List.filter_nil]
  rw [List.filter_eq_self.2]
  · simp
  · intro x hx
    obtain ⟨j, hj, rfl⟩ := List.mem_take_iff_getElem.1 hx
    have := h3 j (by omega)
    simpa using this
theorem DInv.done {v : List Vc.Ve} {l R : List EnV} {i j : Nat} (h : DInv v l i j R) (hj : ¬ j < l.length) : R.take i = keepE v l ∧ (keepE v l).length = i := by
  obtain ⟨h1, h2, h3, h4, h5⟩ := h
  rw [List.take_of_length_le (l := l) (by omega)] at h4
  refine ⟨h4, ?_⟩
  rw [← h4, List.length_take]; omega
theorem delF_call (l : List EnV) (v : List Vc.Ve) (h0 : 0 < l.length) (hl : ∀ x ∈ l, okE x) (hn : l.length ≤ 100000) (hv : Vc.Vec v) (hvl : v.length ≤ 100000) :
    SCallF [] Try.prog 47 [none, some (48, 1)] [.own 36 l.length false (encs envC l), .obj [.tr v.length (encs Vc.veC v)]] (.own 36 (keepE v l).length false (encs envC (keepE v l))) [.gone, .obj [.tr v.length (encs Vc.veC v)]] := by
  have hix := ixE_call l v hl hn hv hvl
  have hcm0 := fun e he => drop1_call e v he hv hvl
  cases hfi : l.findIdx? (pastE v) with
  | none =>
    have hk : keepE v l = l := by
      unfold keepE
      rw [List.filter_eq_self]
      intro x hx
      rw [List.findIdx?_eq_none_iff.1 hfi x hx]; rfl
    have hi : ixE v l = -1 := by unfold ixE; rw [hfi]
    rw [hi] at hix
    rw [hk]
    clear hcm0 hk hi hfi hl
    generalize encs envC l = L at *
    generalize v.length = vn at *
    generalize encs Vc.veC v = vc at *
    refine SCallF.of_body' (G := []) [none, some (48, 1)] (TT := TT) (fun k => decide (k < 2)) [true, false] ttok Try.func47 rfl (Nat.le_of_ble_eq_true rfl) rfl fun fx hfx hgf => WK.top ?_
    simp only [impl, imp, argT, packIV, pk, List.take_succ_cons, List.drop_succ_cons, List.take_zero, List.drop_zero, List.append_nil, List.map_nil, List.map_cons, List.nil_append, List.cons_append, List.length_cons, List.length_nil, show Try.f47.ntmps = 42 from rfl, Nat.zero_add, Nat.reduceAdd]
    have FX := h0
    repeat' (first | refine WK.seq ?_ | refine WK.reg ?_ | refine IL.nil ?_ | refine WK.skip ?_ | refine WK.block ?_ | refine WK.exit_here ?_ | refine WK.e1 ?_ | refine WK.e2 ?_ | (with_reducible refine IL.wr ?_ ?_; focus exact cW) | refine IL.sgF ttok ?_ | refine IL.cSF ttok ent48 [.bor, .own] false ?_ (hS := by exact hcm) | (refine IL.callSF [none, some (48, 1)] hgf (f := 69) (xs := ?_) (A := ?_) (A' := ?_) (rr := ?_) (σ' := ?_) (bs := ?_) (ks := ?_) (sets := ?_) (pushes := ?_) ttok ent69 [.own, .own] false ?_ ?_ ?_ ?_ ?_ ?_ ?_ ?_ ?_ ?_ (fun K hK => ?_) ?_; rotate_left 9; (focus exact cG); (focus rfl); (focus rfl); (focus (first | rfl | (simp only [go_sem, reduceIte, h0] <;> rfl))); (focus (exact hix)); (focus rfl); (focus rfl); (focus (first | rfl | simp only [go_sem])); (focus (first | rfl | (simp only [go_sem, reduceIte, h0] <;> rfl))); (focus simp); (focus (simp only [go_sem, reduceIte, h0]; exact cK hK))) | (refine WK.cn (fun h => ?_) (fun h => ?_); all_goals first | (simp only [reduceCtorEq] at h; done) | (simp only [hsA, hsD, hsE, ne_eq] at h; first | done | (exfalso; omega; done) | skip) | skip))
    all_goals try ((first | refine WK.ret ⟨.inr rfl, ?_⟩ | refine ⟨.inl rfl, ?_⟩ | refine ⟨.inl trivial, ?_⟩); refine Fin.o ?_ ?_ (h1 := by first | rfl | (simp only [go_sem, show Try.f47.results.toList = [.tmp 4] from rfl, reduceIte] <;> rfl)); rotate_left 1; (focus (first | rfl | skip)); all_goals try with_reducible rfl)
    all_goals skip
  | some p =>
    obtain ⟨hp, hD⟩ := DInv.init hfi
    have hi : ixE v l = (p : Int) := by unfold ixE; rw [hfi]
    rw [hi] at hix
    clear hi hfi
    generalize v.length = vn at *
    generalize encs Vc.veC v = vc at *
    refine SCallF.of_body' (G := []) [none, some (48, 1)] (TT := TT) (fun k => decide (k < 2)) [true, false] ttok Try.func47 rfl (Nat.le_of_ble_eq_true rfl) rfl fun fx hfx hgf => WK.top ?_
    simp only [impl, imp, argT, packIV, pk, List.take_succ_cons, List.drop_succ_cons, List.take_zero, List.drop_zero, List.append_nil, List.map_nil, List.map_cons, List.nil_append, List.cons_append, List.length_cons, List.length_nil, show Try.f47.ntmps = 42 from rfl, Nat.zero_add, Nat.reduceAdd]
    have FX := h0
    repeat' (first | refine WK.seq ?_ | refine WK.reg ?_ | refine IL.nil ?_ | refine WK.skip ?_ | refine WK.block ?_ | refine WK.exit_here ?_ | refine WK.e1 ?_ | refine WK.e2 ?_ | (with_reducible refine IL.wr ?_ ?_; focus exact cW) | refine IL.sgF ttok ?_ | refine IL.cSF ttok ent48 [.bor, .own] false ?_ (hS := by exact hcm) | (refine IL.callSF [none, some (48, 1)] hgf (f := 69) (xs := ?_) (A := ?_) (A' := ?_) (rr := ?_) (σ' := ?_) (bs := ?_) (ks := ?_) (sets := ?_) (pushes := ?_) ttok ent69 [.own, .own] false ?_ ?_ ?_ ?_ ?_ ?_ ?_ ?_ ?_ ?_ (fun K hK => ?_) ?_; rotate_left 9; (focus exact cG); (focus rfl); (focus rfl); (focus (first | rfl | (simp only [go_sem, reduceIte, h0] <;> rfl))); (focus (exact hix)); (focus rfl); (focus rfl); (focus (first | rfl | simp only [go_sem])); (focus (first | rfl | (simp only [go_sem, reduceIte, h0] <;> rfl))); (focus simp); (focus (simp only [go_sem, reduceIte, h0]; exact cK hK))) | (refine WK.cn (fun h => ?_) (fun h => ?_); all_goals first | (simp only [reduceCtorEq] at h; done) | (simp only [hsA, hsD, hsE, ne_eq] at h; first | done | (exfalso; omega; done) | skip) | skip))
    refine WK.whileS (α := Nat × Nat × List EnV) (fun x => l.length - x.2.1) (fun x => DInv v l x.1 x.2.1 x.2.2) (fun x => ⟨42, [(0, .sl 0 0 0 l.length), (1, .fn (.func 48) [.ptr 1 0 0]), (5, .v (.int .i64 (x.1 : Nat))), (6, .v (.int .i64 (x.2.1 : Nat)))], [some ⟨true, 36, l.length, false, encs envC x.2.2, 0, false⟩, some ⟨false, 0, 1, false, [.tr vn vc], 0, false⟩]⟩) (p, p + 1, l) ⟨hD, ?_⟩ ?_
    · (refine Weak.renP 2 [0, 1] hfx (fun k h => of_decide_eq_true h) (fun k hk => by rcases (show k = 0 ∨ k = 1 by omega) with rfl | rfl <;> exact ⟨rfl, _, rfl, rfl⟩) rfl ?_ ?_ rfl <;> (simp only [go_sem, reduceIte, exists_eq_left', exists_eq_left, Blk.mk.injEq] <;> (try and_intros) <;> first | rfl | omega))
    · rintro ⟨i, j, R⟩ hI
      simp only at hI
      dsimp only
      have h12 := hI.1
      have h13 := hI.2.1
      have h14 := hI.2.2.1
      by_cases hj : j < l.length
      · have hx : R[j]? = some l[j] := hI.at hj
        have hcm := hcm0 _ (hl _ (List.getElem_mem hj))
        have hle : j * 6 + 6 ≤ R.length * 6 := by omega
        have hat : ((encs envC R).drop (j * 6)).take 6 = envC l[j] := encs_at envC_length hx
        have hne : encs envC R ≠ [] := encs_ne envC_length (by decide) hx
        have hset := encE_set R l[j] i (by omega)
        have hPa := hI.past hj
        have hKe := hI.keep hj
        have hli : i * 6 + 6 ≤ R.length * 6 := by omega
        rw [envC_eq l[j]] at hat hcm hset
        simp only [enT, enL, putAt] at hset
        clear hx hI hcm0 hix hD
        generalize pastE v l[j] = B at *
        generalize l[j] = x at *
        cases B with
        | true =>
          have FX := And.intro hat hle
          repeat' (first | refine WK.seq ?_ | refine WK.reg ?_ | refine IL.nil ?_ | refine WK.skip ?_ | refine WK.block ?_ | refine WK.exit_here ?_ | refine WK.e1 ?_ | refine WK.e2 ?_ | (with_reducible refine IL.wr ?_ ?_; focus exact cW) | refine IL.sgF ttok ?_ | refine IL.cSF ttok ent48 [.bor, .own] false ?_ (hS := by exact hcm) | (refine IL.callSF [none, some (48, 1)] hgf (f := 69) (xs := ?_) (A := ?_) (A' := ?_) (rr := ?_) (σ' := ?_) (bs := ?_) (ks := ?_) (sets := ?_) (pushes := ?_) ttok ent69 [.own, .own] false ?_ ?_ ?_ ?_ ?_ ?_ ?_ ?_ ?_ ?_ (fun K hK => ?_) ?_; rotate_left 9; (focus exact cG); (focus rfl); (focus rfl); (focus (first | rfl | (simp only [go_sem, reduceIte, hat, hle] <;> rfl))); (focus (exact hix)); (focus rfl); (focus rfl); (focus (first | rfl | simp only [go_sem])); (focus (first | rfl | (simp only [go_sem, reduceIte, hat, hle] <;> rfl))); (focus simp); (focus (simp only [go_sem, reduceIte, hat, hle]; exact cK hK))) | (refine WK.cn (fun h => ?_) (fun h => ?_); all_goals first | (simp only [reduceCtorEq] at h; done) | (simp only [hsA, hsD, hsE, ne_eq] at h; first | done | (exfalso; omega; done) | skip) | skip))
          refine ⟨(i, j + 1, R), by simp only; omega, hPa rfl, ?_⟩
          (refine Weak.renP 2 [0, 1] hfx (fun k h => of_decide_eq_true h) (fun k hk => by rcases (show k = 0 ∨ k = 1 by omega) with rfl | rfl <;> exact ⟨rfl, _, rfl, rfl⟩) rfl ?_ ?_ rfl <;> (simp only [go_sem, reduceIte, exists_eq_left', exists_eq_left, Blk.mk.injEq] <;> (try and_intros) <;> first | rfl | omega))
        | false =>
          have FX := And.intro hat (And.intro hle (And.intro hset hli))
          repeat' (first | refine WK.seq ?_ | refine WK.reg ?_ | refine IL.nil ?_ | refine WK.skip ?_ | refine WK.block ?_ | refine WK.exit_here ?_ | refine WK.e1 ?_ | refine WK.e2 ?_ | (with_reducible refine IL.wr ?_ ?_; focus exact cW) | refine IL.sgF ttok ?_ | refine IL.cSF ttok ent48 [.bor, .own] false ?_ (hS := by exact hcm) | (refine IL.callSF [none, some (48, 1)] hgf (f := 69) (xs := ?_) (A := ?_) (A' := ?_) (rr := ?_) (σ' := ?_) (bs := ?_) (ks := ?_) (sets := ?_) (pushes := ?_) ttok ent69 [.own, .own] false ?_ ?_ ?_ ?_ ?_ ?_ ?_ ?_ ?_ ?_ (fun K hK => ?_) ?_; rotate_left 9; (focus exact cG); (focus rfl); (focus rfl); (focus (first | rfl | (simp only [go_sem, reduceIte, hat, hle, hset, hli] <;> rfl))); (focus (exact hix)); (focus rfl); (focus rfl); (focus (first | rfl | simp only [go_sem])); (focus (first | rfl | (simp only [go_sem, reduceIte, hat, hle, hset, hli] <;> rfl))); (focus simp); (focus (simp only [go_sem, reduceIte, hat, hle, hset, hli]; exact cK hK))) | (refine WK.cn (fun h => ?_) (fun h => ?_); all_goals first | (simp only [reduceCtorEq] at h; done) | (simp only [hsA, hsD, hsE, ne_eq] at h; first | done | (exfalso; omega; done) | skip) | skip))
          refine ⟨(i + 1, j + 1, R.set i x), by simp only; omega, hKe rfl, ?_⟩
          (refine Weak.renP 2 [0, 1] hfx (fun k h => of_decide_eq_true h) (fun k hk => by rcases (show k = 0 ∨ k = 1 by omega) with rfl | rfl <;> exact ⟨rfl, _, rfl, rfl⟩) rfl ?_ ?_ rfl <;> (simp only [go_sem, reduceIte, exists_eq_left', exists_eq_left, Blk.mk.injEq, hset] <;> (try and_intros) <;> first | rfl | omega))
      · obtain ⟨hd1, hd2⟩ := hI.done hj
        have hcut : ∀ z, (putAt (encs envC R) (i * 6) z).take (i * 6) = encs envC (keepE v l) := fun z => by rw [take_putAt _ _ _ _ (Nat.le_refl _), encs_take envC_length, hd1]
        rw [hd2]
        clear hI hcm0 hix hD
        generalize encs envC (keepE v l) = Z at *
        generalize encs envC R = L at *
        have hin : i ≤ l.length := by omega
        have hjn : j = l.length := by omega
        subst hjn
        repeat' (first | refine WK.seq ?_ | refine WK.reg ?_ | refine IL.nil ?_ | refine WK.skip ?_ | refine WK.block ?_ | refine WK.exit_here ?_ | refine WK.e1 ?_ | refine WK.e2 ?_ | (with_reducible refine IL.wr ?_ ?_; focus exact cW) | refine IL.sg ttok ?_ | refine IL.cS ttok ent48 [.bor, .own] false ?_ (hS := by exact hcm) | (refine IL.callSF [none, some (48, 1)] hgf (f := 69) (xs := ?_) (A := ?_) (A' := ?_) (rr := ?_) (σ' := ?_) (bs := ?_) (ks := ?_) (sets := ?_) (pushes := ?_) ttok ent69 [.own, .own] false ?_ ?_ ?_ ?_ ?_ ?_ ?_ ?_ ?_ ?_ (fun K hK => ?_) ?_; rotate_left 9; (focus exact cG); (focus rfl); (focus rfl); (focus (first | rfl | (simp only [go_sem, reduceIte] <;> rfl))); (focus (exact hix)); (focus rfl); (focus rfl); (focus (first | rfl | simp only [go_sem])); (focus (first | rfl | (simp only [go_sem, reduceIte] <;> rfl))); (focus simp); (focus (simp only [go_sem, reduceIte]; exact cK hK))) | (refine WK.cn (fun h => ?_) (fun h => ?_); all_goals first | (simp only [reduceCtorEq] at h; done) | (simp only [hsA, hsD, hsE, ne_eq] at h; first | done | (exfalso; omega; done) | skip) | skip))
        refine IL.clearT (σ' := ⟨_, _, _⟩) ttok ?_ (.inl rfl) rfl rfl rfl rfl rfl rfl rfl rfl ⟨rfl, rfl, rfl, (by show i + (l.length - i) ≤ l.length; omega)⟩ (fun h => by cases h) (fun K hK => (show fin _ _ _ _ K from hK))
        repeat' (first | refine WK.seq ?_ | refine WK.reg ?_ | refine IL.nil ?_ | refine WK.skip ?_ | refine WK.block ?_ | refine WK.exit_here ?_ | refine WK.e1 ?_ | refine WK.e2 ?_ | (with_reducible refine IL.wr ?_ ?_; focus exact cW) | refine IL.sg ttok ?_ | refine IL.cS ttok ent48 [.bor, .own] false ?_ (hS := by exact hcm) | (refine IL.callSF [none, some (48, 1)] hgf (f := 69) (xs := ?_) (A := ?_) (A' := ?_) (rr := ?_) (σ' := ?_) (bs := ?_) (ks := ?_) (sets := ?_) (pushes := ?_) ttok ent69 [.own, .own] false ?_ ?_ ?_ ?_ ?_ ?_ ?_ ?_ ?_ ?_ (fun K hK => ?_) ?_; rotate_left 9; (focus exact cG); (focus rfl); (focus rfl); (focus (first | rfl | (simp only [go_sem, reduceIte] <;> rfl))); (focus (exact hix)); (focus rfl); (focus rfl); (focus (first | rfl | simp only [go_sem])); (focus (first | rfl | (simp only [go_sem, reduceIte] <;> rfl))); (focus simp); (focus (simp only [go_sem, reduceIte]; exact cK hK))) | (refine WK.cn (fun h => ?_) (fun h => ?_); all_goals first | (simp only [reduceCtorEq] at h; done) | (simp only [hsA, hsD, hsE, ne_eq] at h; first | done | (exfalso; omega; done) | skip) | skip))
        refine WK.weak (Weak.cutRow ttok (k := 0) (d := 4) (i := i) rfl rfl rfl rfl hin rfl) ?_
        simp only [List.set_cons_zero, Nat.zero_add, hcut]
        all_goals try ((first | refine WK.ret ⟨.inr rfl, ?_⟩ | refine ⟨.inl rfl, ?_⟩ | refine ⟨.inl trivial, ?_⟩); refine Fin.o ?_ ?_ (h1 := by first | rfl | (simp only [go_sem, show Try.f47.results.toList = [.tmp 4] from rfl, reduceIte] <;> rfl)); rotate_left 1; (focus (first | rfl | skip)); all_goals try with_reducible rfl)
        all_goals skip
end Go.Proofs.Ytclhjcbnpdlgbaa
/- package hold: Drop. -/
namespace Go.Proofs.Ytclhjcbnpdlgbaa
open Go Go.Lift
set_option maxHeartbeats 4000000
set_option linter.unusedSimpArgs false
set_option linter.unusedVariables false
attribute [local irreducible] WK IL IP IG IW DW

theorem ixE0_call (y : Value) : SCallF [] Try.prog 69 [none, some (48, 1)] [.tr 0 [], .obj [.v y]] (.v (.int .i64 (-1))) [.tr 0 [], .obj [.v y]] := by
  refine SCallF.of_body' (G := []) [none, some (48, 1)] (TT := TT) (fun k => decide (k < 1)) [false, false] ttok Try.func69 rfl (Nat.le_of_ble_eq_true rfl) rfl fun fx hfx hgf => WK.top ?_
  simp only [impl, imp, argT, packIV, pk, List.take_succ_cons, List.drop_succ_cons, List.take_zero, List.drop_zero, List.append_nil, List.map_nil, List.map_cons, List.nil_append, List.cons_append, List.length_cons, List.length_nil, show Try.f69.ntmps = 19 from rfl, Nat.zero_add, Nat.reduceAdd]
  repeat' (first | refine WK.seq ?_ | refine WK.reg ?_ | refine IL.nil ?_ | refine WK.skip ?_ | refine WK.block ?_ | refine WK.exit_here ?_ | refine WK.e1 ?_ | refine WK.e2 ?_ | (with_reducible refine IL.wr ?_ ?_; focus exact cW) | refine IL.sg ttok ?_ | (refine WK.cn (fun h => ?_) (fun h => ?_); all_goals first | (simp only [reduceCtorEq] at h; done) | (simp only [hsA, hsD, hsE, ne_eq] at h; first | done | (exfalso; omega; done) | skip) | skip))
  refine WK.forS 0 (fun k => True) (fun k => ⟨19, [(7, .v (.int .i64 (0 : Nat))), (8, .v (.int .i64 k))], [some ⟨false, 0, 1, false, [.v y], 0, false⟩]⟩) ⟨trivial, ?_⟩ (fun k hk ho => absurd hk (Nat.not_lt_zero k)) (fun ho => ?_)
  · (refine Weak.renP 1 [0] hfx (fun k h => of_decide_eq_true h) (fun k hk => by obtain rfl : k = 0 := (by omega); exact ⟨rfl, _, rfl, rfl⟩) rfl ?_ ?_ rfl <;> (simp only [go_sem, reduceIte, exists_eq_left', exists_eq_left, Blk.mk.injEq] <;> (try and_intros) <;> first | rfl | omega))
  · repeat' (first | refine WK.seq ?_ | refine WK.reg ?_ | refine IL.nil ?_ | refine WK.skip ?_ | refine WK.block ?_ | refine WK.exit_here ?_ | refine WK.e1 ?_ | refine WK.e2 ?_ | (with_reducible refine IL.wr ?_ ?_; focus exact cW) | refine IL.sg ttok ?_ | (refine WK.cn (fun h => ?_) (fun h => ?_); all_goals first | (simp only [reduceCtorEq] at h; done) | (simp only [hsA, hsD, hsE, ne_eq] at h; first | done | (exfalso; omega; done) | skip) | skip))
    all_goals try ((first | refine WK.ret ⟨.inr rfl, ?_⟩ | refine ⟨.inl rfl, ?_⟩ | refine ⟨.inl trivial, ?_⟩); refine Fin.o ?_ ?_ (h1 := by first | rfl | (simp only [go_sem, show Try.f69.results.toList = [.tmp 4] from rfl, reduceIte] <;> rfl)); rotate_left 1; (focus (first | rfl | skip)); all_goals try with_reducible rfl)
    all_goals skip
theorem delF0_call (v : List Vc.Ve) : SCallF [] Try.prog 47 [none, some (48, 1)] [.own 36 0 false [], .obj [.tr v.length (encs Vc.veC v)]] (.own 36 0 false []) [.gone, .obj [.tr v.length (encs Vc.veC v)]] := by
  refine SCallF.opq (by first | rfl | simp [idFree]) fun y => ?_
  have hix := ixE0_call y
  refine SCallF.of_body' (G := []) [none, some (48, 1)] (TT := TT) (fun k => decide (k < 2)) [true, false] ttok Try.func47 rfl (Nat.le_of_ble_eq_true rfl) rfl fun fx hfx hgf => WK.top ?_
  simp only [impl, imp, argT, packIV, pk, List.take_succ_cons, List.drop_succ_cons, List.take_zero, List.drop_zero, List.append_nil, List.map_nil, List.map_cons, List.nil_append, List.cons_append, List.length_cons, List.length_nil, show Try.f47.ntmps = 42 from rfl, Nat.zero_add, Nat.reduceAdd]
  repeat' (first | refine WK.seq ?_ | refine WK.reg ?_ | refine IL.nil ?_ | refine WK.skip ?_ | refine WK.block ?_ | refine WK.exit_here ?_ | refine WK.e1 ?_ | refine WK.e2 ?_ | (with_reducible refine IL.wr ?_ ?_; focus exact cW) | refine IL.sg ttok ?_ | (refine IL.callSF [none, some (48, 1)] hgf (f := 69) (xs := ?_) (A := ?_) (A' := ?_) (rr := ?_) (σ' := ?_) (bs := ?_) (ks := ?_) (sets := ?_) (pushes := ?_) ttok ent69 [.bor, .own] true ?_ ?_ ?_ ?_ ?_ ?_ ?_ ?_ ?_ ?_ (fun K hK => ?_) ?_; rotate_left 9; (focus exact cG); (focus rfl); (focus rfl); (focus (first | rfl | (simp only [go_sem, reduceIte] <;> rfl))); (focus (exact hix)); (focus rfl); (focus rfl); (focus (first | rfl | simp only [go_sem])); (focus (first | rfl | (simp only [go_sem, reduceIte] <;> rfl))); (focus simp); (focus (simp only [go_sem, reduceIte]; exact cK hK))) | (refine WK.cn (fun h => ?_) (fun h => ?_); all_goals first | (simp only [reduceCtorEq] at h; done) | (simp only [hsA, hsD, hsE, ne_eq] at h; first | done | (exfalso; omega; done) | skip) | skip))
  all_goals try ((first | refine WK.ret ⟨.inr rfl, ?_⟩ | refine ⟨.inl rfl, ?_⟩ | refine ⟨.inl trivial, ?_⟩); refine Fin.o ?_ ?_ (h1 := by first | rfl | (simp only [go_sem, show Try.f47.results.toList = [.tmp 4] from rfl, reduceIte] <;> rfl)); rotate_left 1; (focus (first | rfl | skip)); all_goals try with_reducible rfl)
  all_goals skip
theorem delF1_call (l : List EnV) (v : List Vc.Ve) (hl : ∀ x ∈ l, okE x) (hn : l.length ≤ 100000) (hv : Vc.Vec v) (hvl : v.length ≤ 100000) :
    SCallF [] Try.prog 47 [none, some (48, 1)] [.own 36 l.length false (encs envC l), .obj [.tr v.length (encs Vc.veC v)]] (.own 36 (keepE v l).length false (encs envC (keepE v l))) [.gone, .obj [.tr v.length (encs Vc.veC v)]] := by
  cases l with
  | nil => exact delF0_call v
  | cons a l => exact delF_call (a :: l) v (by simp) hl hn hv hvl
theorem drop_call (l : List EnV) (v : List Vc.Ve) (hl : ∀ x ∈ l, okE x) (hn : l.length ≤ 100000) (hv : Vc.Vec v) (hvl : v.length ≤ 100000) :
    SCall Try.prog 22 [bufO l, .tr v.length (encs Vc.veC v)] (.v (.int .i64 ((l.length : Int) - (keepE v l).length))) [bufO (keepE v l), .tr v.length (encs Vc.veC v)] := by
  have hde := delF1_call l v hl hn hv hvl
  have hkl : (keepE v l).length ≤ l.length := List.length_filter_le _ _
  have hw : IntKind.i64.wrap ((l.length : Int) - ((keepE v l).length : Int)) = (l.length : Int) - ((keepE v l).length : Int) := wrap_i64 (by omega) (by omega)
  generalize keepE v l = K at *
  generalize v.length = vn at *
  generalize encs Vc.veC v = vc at *
  refine SCallG.toS ?_
  refine SCallG.of_body' (G := []) (TT := TT) (fun k => decide (k < 1)) [false, false] ttok Try.func22 rfl (Nat.le_of_ble_eq_true rfl) rfl fun fx hfx hgf => WK.top ?_
  simp only [impl, imp, argT, List.append_nil, List.map_nil, List.map_cons, List.nil_append, List.cons_append, List.length_cons, List.length_nil, show Try.f22.ntmps = 27 from rfl, Nat.zero_add, Nat.reduceAdd]
  have FX := hw
  repeat' (first | refine WK.seq ?_ | refine WK.reg ?_ | refine IL.nil ?_ | (with_reducible refine IL.wr ?_ ?_; focus exact cW) | refine IL.sgF ttok ?_ | (refine IL.mkfn (σ' := ?_) (vs := ?_) cG rfl ?_ (fun K hK => ?_) ?_; rotate_left 2; (focus rfl); (focus (simp only [go_sem, reduceIte, hw]; exact hK))) | (refine IL.callSF [none, some (48, 1)] hgf (f := 47) (xs := ?_) (A := ?_) (A' := ?_) (rr := ?_) (σ' := ?_) (bs := ?_) (ks := ?_) (sets := ?_) (pushes := ?_) ttok ent47 [.own, .own] false ?_ ?_ ?_ ?_ ?_ ?_ ?_ ?_ ?_ ?_ (fun K hK => ?_) ?_; rotate_left 9; (focus exact cG); (focus rfl); (focus rfl); (focus (first | rfl | (simp only [go_sem, reduceIte, hw] <;> rfl))); (focus (exact hde)); (focus rfl); (focus rfl); (focus (first | rfl | simp only [go_sem])); (focus (first | rfl | (simp only [go_sem, reduceIte, hw] <;> rfl))); (focus simp); (focus (simp only [go_sem, reduceIte, hw]; exact cK hK))))
  all_goals try ((first | refine WK.ret ⟨.inr rfl, ?_⟩ | refine ⟨.inl rfl, ?_⟩ | refine ⟨.inl trivial, ?_⟩); refine Fin.o ?_ ?_ (h1 := by first | rfl | (simp only [go_sem, show Try.f22.results.toList = [.tmp 4] from rfl, reduceIte] <;> rfl)); rotate_left 1; (focus (first | rfl | skip)); all_goals try with_reducible rfl)
  all_goals skip
end Go.Proofs.Ytclhjcbnpdlgbaa
/- HoldWants: who knows what is wanted, plain. -/
namespace Go.Proofs.Ytclhjcbnpdlgbaa
open Go Go.Lift
set_option maxHeartbeats 4000000
set_option linter.unusedSimpArgs false
set_option linter.unusedVariables false
attribute [local irreducible] WK IL IP IG IW DW

theorem lack_mem {v w : List Vc.Ve} {g : Vc.Gp} (h : g ∈ Vc.lackV v w) : ∃ x ∈ w, g = (x.1, Vc.getV v x.1 + 1, x.2) ∧ Vc.getV v x.1 < x.2 := by
  unfold Vc.lackV at h
  obtain ⟨x, hx, hg⟩ := List.mem_flatMap.1 h
  unfold Vc.gapOf at hg
  split at hg
  · rename_i hlt
    exact ⟨x, hx, List.mem_singleton.1 hg, hlt⟩
  · simp at hg
def lrn (n : List Vc.Ve) (g : Vc.Gp) : List Vc.Ve := Vc.withV n g.1 g.2.2
theorem lrn_join (v0 : List Vc.Ve) : ∀ (w o : List Vc.Ve), Vc.Srt w → Vc.Srt o → (∀ x ∈ w, 0 ≤ x.2) → (∀ x ∈ w, Vc.getV o x.1 = Vc.getV v0 x.1) → (Vc.lackV v0 w).foldl lrn o = Vc.joinV o w
  | [], o, _, _, _, _ => rfl
  | x :: w, o, hs, ho, h0, h => by
    obtain ⟨h1, h2⟩ := List.pairwise_cons.1 hs
    have hx := h x (by simp)
    have hl : Vc.lackV v0 (x :: w) = Vc.gapOf v0 x ++ Vc.lackV v0 w := by simp [Vc.lackV]
    rw [hl, List.foldl_append, Vc.joinV_cons]
    unfold Vc.addV Vc.gapOf
    by_cases hlt : Vc.getV v0 x.1 < x.2
    · rw [if_pos hlt, if_pos (by rw [hx]; exact hlt)]
      show (Vc.lackV v0 w).foldl lrn (Vc.withV o x.1 x.2) = _
      refine lrn_join v0 w _ h2 (Vc.withV_srt ho _ _) (fun y hy => h0 y (by simp [hy])) fun y hy => ?_
      have := h1 y hy
      rw [Vc.getV_with ho (h0 x (by simp)), if_neg (by omega)]
      exact h y (by simp [hy])
    · rw [if_neg hlt, if_neg (by rw [hx]; exact hlt)]
      exact lrn_join v0 w o h2 ho (fun y hy => h0 y (by simp [hy])) fun y hy => h y (by simp [hy])
def cvE (v : List Vc.Ve) (y : EnV) : Prop := Vc.covV v y.d = true ∧ y.s - 1 ≤ Vc.getV v y.r
theorem cvE_past {v : List Vc.Ve} {y : EnV} (h : cvE v y) (hr : rdyE v y = false) : pastE v y = true := by
  unfold rdyE at hr
  rw [h.1, Bool.and_true, decide_eq_false_iff_not] at hr
  have := h.2
  unfold pastE
  rw [decide_eq_true_eq]; omega
theorem cvE_with {v : List Vc.Ve} {y e : EnV} (hv : Vc.Vec v) (hy : okE y) (he : okE e) (h : cvE v y) (hr : rdyE v e = true) : cvE (Vc.withV v e.r e.s) y := by
  have hs := he.2.2.1
  unfold rdyE at hr
  rw [Bool.and_eq_true, decide_eq_true_eq] at hr
  have hg := fun r => Vc.getV_with hv.s (r := e.r) (q := e.s) (by omega) r
  have hge : ∀ r, Vc.getV v r ≤ Vc.getV (Vc.withV v e.r e.s) r := fun r => by
    rw [hg]
    split
    · rename_i h; rw [h, hr.1]; omega
    · exact Int.le_refl _
  refine ⟨(Vc.covV_iff (Vc.withV_vec hv he.2.1 (by omega)) hy.1).2 fun r => Int.le_trans ((Vc.covV_iff hv hy.1).1 h.1 r) (hge r), ?_⟩
  have := h.2; have := hge y.r; omega
theorem getV_nil (r : Int) : Vc.getV [] r = 0 := rfl
theorem needV_get {a : List Vc.Ve} {e : EnV} (ha : Vc.Vec a) (he : okE e) (r : Int) : Vc.getV (needV a e) r = max (max (Vc.getV a r) (Vc.getV e.d r)) (if r = e.r then e.s - 1 else 0) := by
  have hs := he.2.2.1
  have hw := Vc.withV_vec vec_nil he.2.1 (q := e.s - 1) (by omega)
  show Vc.getV (Vc.joinV (Vc.joinV a e.d) (Vc.withV [] e.r (e.s - 1))) r = _
  rw [Vc.getV_join (Vc.join_vec ha he.1) hw, Vc.getV_join ha he.1, Vc.getV_with vec_nil.s (by omega), getV_nil]
theorem want_ge : ∀ (l : List EnV) (a : List Vc.Ve), Vc.Vec a → (∀ x ∈ l, okE x) → (∀ r, Vc.getV a r ≤ Vc.getV (l.foldl needV a) r) ∧ ∀ y ∈ l, (∀ r, Vc.getV y.d r ≤ Vc.getV (l.foldl needV a) r) ∧ y.s - 1 ≤ Vc.getV (l.foldl needV a) y.r
  | [], a, _, _ => ⟨fun r => Int.le_refl _, by simp⟩
  | e :: l, a, ha, hl => by
    have he := hl e (by simp)
    obtain ⟨i1, i2⟩ := want_ge l (needV a e) (needV_vec ha he) fun x hx => hl x (by simp [hx])
    have hg := needV_get ha he
    rw [List.foldl_cons]
    refine ⟨fun r => Int.le_trans (by rw [hg]; omega) (i1 r), fun y hy => ?_⟩
    rcases List.mem_cons.1 hy with rfl | hy
    · refine ⟨fun r => Int.le_trans (by rw [hg]; omega) (i1 r), Int.le_trans ?_ (i1 y.r)⟩
      rw [hg, if_pos rfl]; omega
    · exact i2 y hy
theorem cvE_want {l : List EnV} {v : List Vc.Ve} (hv : Vc.Vec v) (hl : ∀ x ∈ l, okE x) : ∀ y ∈ l, cvE (Vc.joinV v (wantV l)) y := fun y hy => by
  have hw := wantV_vec l hl
  have hj := Vc.join_vec hv hw
  obtain ⟨h1, h2⟩ := (want_ge l [] vec_nil hl).2 y hy
  refine ⟨(Vc.covV_iff hj (hl y hy).1).2 fun r => ?_, ?_⟩
  · rw [Vc.getV_join hv hw]
    have := h1 r
    unfold wantV
    omega
  · rw [Vc.getV_join hv hw]
    unfold wantV
    omega
theorem lack_none {l : List EnV} {v : List Vc.Ve} (hv : Vc.Vec v) (hl : ∀ x ∈ l, okE x) : Vc.lackV (Vc.joinV v (wantV l)) (wantV l) = [] := by
  have := Vc.law_cov2 hv (wantV_vec l hl)
  unfold Vc.covV at this
  exact List.eq_nil_of_length_eq_zero (by simpa using this)
theorem lrn_want {l : List EnV} {v : List Vc.Ve} (hv : Vc.Vec v) (hl : ∀ x ∈ l, okE x) : (Vc.lackV v (wantV l)).foldl lrn v = Vc.joinV v (wantV l) := by
  have hw := wantV_vec l hl
  exact lrn_join v (wantV l) v hw.s hv.s (fun x hx => by have := (hw.b x hx).2; omega) fun _ _ => rfl
theorem keepE_nil {v : List Vc.Ve} {B : List EnV} (h : ∀ y ∈ B, pastE v y = true) : keepE v B = [] := by
  unfold keepE
  rw [List.filter_eq_nil_iff]
  intro y hy; rw [h y hy]; simp
end Go.Proofs.Ytclhjcbnpdlgbaa
/- HoldWants: its function. -/
namespace Go.Proofs.Ytclhjcbnpdlgbaa
open Go Go.Lift
set_option maxHeartbeats 8000000
set_option linter.unusedSimpArgs false
set_option linter.unusedVariables false
attribute [local irreducible] WK IL IP IG IW DW

open Classical in
theorem holdWants_call (l : List EnV) (v0 : List Vc.Ve) (hl : ∀ e ∈ l, GE e) (hll : l.length ≤ 9223372036854775807) (hv0 : wfD v0) (hv8 : v0.length * 8 ≤ 140737488355328) :
    SCall Try.prog 4 [.tr l.length (encs envC l), .tr v0.length (encs Vc.veC v0)] (.v (.bool true)) [.tr l.length (encs envC l), .tr v0.length (encs Vc.veC v0)] := by
  by_cases h60 : l.length ≤ 60
  rotate_left
  · refine SCall.of_body' (TT := TT) (fun _ => false) [false, false] ttok Try.func4 rfl (Nat.le_of_ble_eq_true rfl) rfl fun fx hfx => WK.top ?_
    simp only [impl, imp, argT, List.append_nil, List.map_nil, List.nil_append, show Try.f4.ntmps = 99 from rfl, Nat.zero_add, Nat.reduceAdd]
    repeat' (first | refine WK.seq ?_ | refine WK.reg ?_ | refine IL.nil ?_ | refine WK.skip ?_ | refine WK.block ?_ | refine WK.exit_here ?_ | refine WK.e1 ?_ | refine WK.e2 ?_ | refine WK.drawnS (id := 18) mixed [] [9] [0, 0, 0, 0, 0, 0, 0, 0, 0, 0, 0, 0, 0, 1, 1] [0, 0, 0, 0, 0, 0, 0, 0, 0, 0, 1, 1, 1, 1, 1] (by decide +kernel) ?_ | refine DW.nil ?_ | (with_reducible refine IL.wr ?_ ?_; focus exact cW) | (with_reducible refine DW.wr ?_ ?_; focus exact cW) | refine IL.sg ttok ?_ | refine IL.nn ?_ | refine DW.re ttok ?_ | refine DW.rm ttok ?_ | refine DW.nn ?_ | refine DW.nb ?_ | refine IL.cS ttok ent6 [] true ?_ (hS := by exact anchor11) | refine IL.cS ttok ent7 [.bor] true ?_ (hS := by exact hri) | refine IL.cS ttok ent8 [.bor] true ?_ (hS := by exact hsm) | refine IL.cS ttok ent9 [.own, .bor] false ?_ (hS := by exact hpu) | refine IL.cS ttok ent10 [.bor] false ?_ (hS := by exact hvs) | refine IL.cS ttok ent11 [.own, .bor] false ?_ (hS := by exact hta) | refine IL.cS ttok ent15 [.bor, .bor, .bor] false ?_ (hS := by exact hcw) | refine IL.cS ttok ent20 [.own, .bor] false ?_ (hS := by first | exact hwa | exact hwb) | refine DW.cS ttok ent21 [.bor, .bor] true ?_ (hS := by exact hrg) | refine IL.cS ttok ent22 [.own, .bor] false ?_ (hS := by exact hdr) | refine IL.cS ttok ent23 [.own] false ?_ (hS := by exact hle0) | ((first | ((first | refine IL.ag (fun h => ?_) (fun h => ?_) | refine DW.ag (fun h => ?_) (fun h => ?_) | refine IL.ap (fun h => ?_) (fun h => ?_) | refine DW.ap (fun h => ?_) (fun h => ?_)); (fail_if_success (focus (simp only [reduceCtorEq] at h)))) | refine WK.cn (fun h => ?_) (fun h => ?_)); all_goals first | (simp only [reduceCtorEq] at h; done) | (simp only [hsA, hsD, hsE, ne_eq] at h; first | done | (exfalso; omega; done) | skip) | skip))
    all_goals try ((first | refine WK.ret ⟨.inr rfl, ?_⟩ | refine ⟨.inl rfl, ?_⟩ | refine ⟨.inl trivial, ?_⟩); refine Fin.o ?_ ?_ (h1 := by first | rfl | (simp only [go_sem, show Try.f4.results.toList = [.tmp 4] from rfl, reduceIte] <;> rfl)); rotate_left 1; (focus (first | rfl | skip)); all_goals try with_reducible rfl)
    all_goals skip
  have hri := rightS_call v0 (fun x hx => (hv0 x hx).1) hv8
  by_cases hR : v0.length ≤ 100 ∧ Vc.rightB v0 = true
  rotate_left
  · rw [show (decide (v0.length ≤ 100) && Vc.rightB v0) = false from by
      rw [Bool.eq_false_iff]; intro h; rw [Bool.and_eq_true, decide_eq_true_eq] at h; exact hR h] at hri
    refine SCall.of_body' (TT := TT) (fun _ => false) [false, false] ttok Try.func4 rfl (Nat.le_of_ble_eq_true rfl) rfl fun fx hfx => WK.top ?_
    simp only [impl, imp, argT, List.append_nil, List.map_nil, List.nil_append, show Try.f4.ntmps = 99 from rfl, Nat.zero_add, Nat.reduceAdd]
    repeat' (first | refine WK.seq ?_ | refine WK.reg ?_ | refine IL.nil ?_ | refine WK.skip ?_ | refine WK.block ?_ | refine WK.exit_here ?_ | refine WK.e1 ?_ | refine WK.e2 ?_ | refine WK.drawnS (id := 18) mixed [] [9] [0, 0, 0, 0, 0, 0, 0, 0, 0, 0, 0, 0, 0, 1, 1] [0, 0, 0, 0, 0, 0, 0, 0, 0, 0, 1, 1, 1, 1, 1] (by decide +kernel) ?_ | refine DW.nil ?_ | (with_reducible refine IL.wr ?_ ?_; focus exact cW) | (with_reducible refine DW.wr ?_ ?_; focus exact cW) | refine IL.sg ttok ?_ | refine IL.nn ?_ | refine DW.re ttok ?_ | refine DW.rm ttok ?_ | refine DW.nn ?_ | refine DW.nb ?_ | refine IL.cS ttok ent6 [] true ?_ (hS := by exact anchor11) | refine IL.cS ttok ent7 [.bor] true ?_ (hS := by exact hri) | refine IL.cS ttok ent8 [.bor] true ?_ (hS := by exact hsm) | refine IL.cS ttok ent9 [.own, .bor] false ?_ (hS := by exact hpu) | refine IL.cS ttok ent10 [.bor] false ?_ (hS := by exact hvs) | refine IL.cS ttok ent11 [.own, .bor] false ?_ (hS := by exact hta) | refine IL.cS ttok ent15 [.bor, .bor, .bor] false ?_ (hS := by exact hcw) | refine IL.cS ttok ent20 [.own, .bor] false ?_ (hS := by first | exact hwa | exact hwb) | refine DW.cS ttok ent21 [.bor, .bor] true ?_ (hS := by exact hrg) | refine IL.cS ttok ent22 [.own, .bor] false ?_ (hS := by exact hdr) | refine IL.cS ttok ent23 [.own] false ?_ (hS := by exact hle0) | ((first | ((first | refine IL.ag (fun h => ?_) (fun h => ?_) | refine DW.ag (fun h => ?_) (fun h => ?_) | refine IL.ap (fun h => ?_) (fun h => ?_) | refine DW.ap (fun h => ?_) (fun h => ?_)); (fail_if_success (focus (simp only [reduceCtorEq] at h)))) | refine WK.cn (fun h => ?_) (fun h => ?_)); all_goals first | (simp only [reduceCtorEq] at h; done) | (simp only [hsA, hsD, hsE, ne_eq] at h; first | done | (exfalso; omega; done) | skip) | skip))
    all_goals try ((first | refine WK.ret ⟨.inr rfl, ?_⟩ | refine ⟨.inl rfl, ?_⟩ | refine ⟨.inl trivial, ?_⟩); refine Fin.o ?_ ?_ (h1 := by first | rfl | (simp only [go_sem, show Try.f4.results.toList = [.tmp 4] from rfl, reduceIte] <;> rfl)); rotate_left 1; (focus (first | rfl | skip)); all_goals try with_reducible rfl)
    all_goals skip
  obtain ⟨hR1, hR2⟩ := hR
  rw [decide_eq_true hR1, hR2] at hri
  simp only [Bool.and_self] at hri
  have hv0v : Vc.Vec v0 := Vc.Vec.of hR2 fun x hx => (hv0 x hx).1
  have hvs := SCall.frz (vecS_call v0 hv8) rfl
  simp only [frzR] at hvs
  clear hR2
  refine SCall.of_body' (TT := TT) (fun _ => false) [false, false] ttok Try.func4 rfl (Nat.le_of_ble_eq_true rfl) rfl fun fx hfx => WK.top ?_
  simp only [impl, imp, argT, List.append_nil, List.map_nil, List.nil_append, show Try.f4.ntmps = 99 from rfl, Nat.zero_add, Nat.reduceAdd]
  repeat' (first | refine WK.seq ?_ | refine WK.reg ?_ | refine IL.nil ?_ | refine WK.skip ?_ | refine WK.block ?_ | refine WK.exit_here ?_ | refine WK.e1 ?_ | refine WK.e2 ?_ | refine WK.drawnS (id := 18) mixed [] [9] [0, 0, 0, 0, 0, 0, 0, 0, 0, 0, 0, 0, 0, 1, 1] [0, 0, 0, 0, 0, 0, 0, 0, 0, 0, 1, 1, 1, 1, 1] (by decide +kernel) ?_ | refine DW.nil ?_ | (with_reducible refine IL.wr ?_ ?_; focus exact cW) | (with_reducible refine DW.wr ?_ ?_; focus exact cW) | refine IL.sg ttok ?_ | refine IL.nn ?_ | refine DW.re ttok ?_ | refine DW.rm ttok ?_ | refine DW.nn ?_ | refine DW.nb ?_ | refine IL.cS ttok ent6 [] true ?_ (hS := by exact anchor11) | refine IL.cS ttok ent7 [.bor] true ?_ (hS := by exact hri) | refine IL.cS ttok ent8 [.bor] true ?_ (hS := by exact hsm) | refine IL.cS ttok ent9 [.own, .bor] false ?_ (hS := by exact hpu) | refine IL.cS ttok ent10 [.bor] false ?_ (hS := by exact hvs) | refine IL.cS ttok ent11 [.own, .bor] false ?_ (hS := by exact hta) | refine IL.cS ttok ent15 [.bor, .bor, .bor] false ?_ (hS := by exact hcw) | refine IL.cS ttok ent20 [.own, .bor] false ?_ (hS := by first | exact hwa | exact hwb) | refine DW.cS ttok ent21 [.bor, .bor] true ?_ (hS := by exact hrg) | refine IL.cS ttok ent22 [.own, .bor] false ?_ (hS := by exact hdr) | refine IL.cS ttok ent23 [.own] false ?_ (hS := by exact hle0) | ((first | ((first | refine IL.ag (fun h => ?_) (fun h => ?_) | refine DW.ag (fun h => ?_) (fun h => ?_) | refine IL.ap (fun h => ?_) (fun h => ?_) | refine DW.ap (fun h => ?_) (fun h => ?_)); (fail_if_success (focus (simp only [reduceCtorEq] at h)))) | refine WK.cn (fun h => ?_) (fun h => ?_)); all_goals first | (simp only [reduceCtorEq] at h; done) | (simp only [hsA, hsD, hsE, ne_eq] at h; first | done | (exfalso; omega; done) | skip) | skip))
  refine WK.forS l.length (fun k => Buf (l.take k) (bufK l k) ∧ ∀ e ∈ l.take k, okE e) (fun k => ⟨99, [(0, .tr l.length (encs envC l)), (1, .tr v0.length (encs Vc.veC v0)), (5, .ptr 0 0 0), (24, .tr l.length (encs envC l)), (25, .v (.int .i64 l.length)), (26, .v (.int .i64 k))], [some ⟨false, 0, 1, false, [.sl 1 0 0 (bufK l k).length], 0, false⟩, some ⟨true, 36, (bufK l k).length, false, encs envC (bufK l k), 0, false⟩]⟩) ⟨⟨Buf.nil, by simp⟩, ?_⟩ (fun k hk ho => ?_) (fun ho => ?_)
  · rw [show bufK l 0 = [] from rfl]
    (refine Weak.renS [1, 0] hfx rfl ?_ ?_ rfl <;> (simp only [go_sem, reduceIte, exists_eq_left', exists_eq_left, Blk.mk.injEq, encs_nil, List.length_nil] <;> (try and_intros) <;> first | rfl | omega))
  · obtain ⟨hb, hok⟩ := ho
    have hx : l[k]? = some l[k] := List.getElem?_eq_getElem hk
    have hle : k * 6 + 6 ≤ l.length * 6 := by omega
    have hat : ((encs envC l).drop (k * 6)).take 6 = envC l[k] := encs_at envC_length hx
    have hne : encs envC l ≠ [] := encs_ne envC_length (by decide) hx
    have hg := hl _ (List.getElem_mem hk)
    have hbk := bufK_succ hk
    have htk := bgE hk
    have hsm := smallS_call l[k].d l[k].r l[k].s l[k].c l[k].u l[k].ops hg.d8 hg.d hg.o72 hg.s16 hg.t hg.o
    have hlen := hb.len
    rw [List.length_take] at hlen
    rw [envC_eq] at hat
    by_cases hS : smallE l[k].d l[k].r l[k].s l[k].c l[k].u l[k].ops
    rotate_left
    · rw [decide_eq_false hS] at hsm
      generalize l[k] = e at *
      have FX := And.intro hat hle
      repeat' (first | refine WK.seq ?_ | refine WK.reg ?_ | refine IL.nil ?_ | refine WK.skip ?_ | refine WK.block ?_ | refine WK.exit_here ?_ | refine WK.e1 ?_ | refine WK.e2 ?_ | refine WK.drawnS (id := 18) mixed [] [9] [0, 0, 0, 0, 0, 0, 0, 0, 0, 0, 0, 0, 0, 1, 1] [0, 0, 0, 0, 0, 0, 0, 0, 0, 0, 1, 1, 1, 1, 1] (by decide +kernel) ?_ | refine DW.nil ?_ | (with_reducible refine IL.wr ?_ ?_; focus exact cW) | (with_reducible refine DW.wr ?_ ?_; focus exact cW) | refine IL.sgF ttok ?_ | refine IL.nn ?_ | refine DW.reF ttok ?_ | refine DW.rmF ttok ?_ | refine DW.nn ?_ | refine DW.nb ?_ | refine IL.cSF ttok ent6 [] true ?_ (hS := by exact anchor11) | refine IL.cSF ttok ent7 [.bor] true ?_ (hS := by exact hri) | refine IL.cSF ttok ent8 [.bor] true ?_ (hS := by exact hsm) | refine IL.cSF ttok ent9 [.own, .bor] false ?_ (hS := by exact hpu) | refine IL.cSF ttok ent10 [.bor] false ?_ (hS := by exact hvs) | refine IL.cSF ttok ent11 [.own, .bor] false ?_ (hS := by exact hta) | refine IL.cSF ttok ent15 [.bor, .bor, .bor] false ?_ (hS := by exact hcw) | refine IL.cSF ttok ent20 [.own, .bor] false ?_ (hS := by first | exact hwa | exact hwb) | refine DW.cSF ttok ent21 [.bor, .bor] true ?_ (hS := by exact hrg) | refine IL.cSF ttok ent22 [.own, .bor] false ?_ (hS := by exact hdr) | refine IL.cSF ttok ent23 [.own] false ?_ (hS := by exact hle0) | ((first | ((first | refine IL.ag (fun h => ?_) (fun h => ?_) | refine DW.ag (fun h => ?_) (fun h => ?_) | refine IL.ap (fun h => ?_) (fun h => ?_) | refine DW.ap (fun h => ?_) (fun h => ?_)); (fail_if_success (focus (simp only [reduceCtorEq] at h)))) | refine WK.cn (fun h => ?_) (fun h => ?_)); all_goals first | (simp only [reduceCtorEq] at h; done) | (simp only [hsA, hsD, hsE, ne_eq] at h; first | done | (exfalso; omega; done) | skip) | skip))
      all_goals try ((first | refine WK.ret ⟨.inr rfl, ?_⟩ | refine ⟨.inl rfl, ?_⟩ | refine ⟨.inl trivial, ?_⟩); refine Fin.o ?_ ?_ (h1 := by first | rfl | (simp only [go_sem, show Try.f4.results.toList = [.tmp 4] from rfl, reduceIte] <;> rfl)); rotate_left 1; (focus (first | rfl | skip)); all_goals try with_reducible rfl)
      all_goals skip
    rw [decide_eq_true hS] at hsm
    have hoe := smallE_ok hg.d hg.n.1 hS
    have hb2 := hb.put hoe
    have hnx : Buf (l.take (k + 1)) (bufK l (k + 1)) ∧ ∀ e ∈ l.take (k + 1), okE e := by
      rw [htk, hbk]
      refine ⟨hb2, fun e he => ?_⟩
      rcases List.mem_append.1 he with he | he
      · exact hok e he
      · rw [List.mem_singleton.1 he]; exact hoe
    have hnb : ∀ x ∈ bufK l k, nb x := fun x hx => okE_nb (hb.ok x hx)
    have hbs := hb.s
    rw [hbk] at hnx ⊢
    unfold stpE at hnx ⊢
    by_cases hh : hasE (bufK l k) (kE l[k]) = true
    · rw [if_pos hh] at hnx ⊢
      have hpu := put_has (bufK l k) l[k] hbs hnb hg.n (by omega) hh
      rw [envC_eq] at hpu
      clear hh hb2 hbk htk hx hb
      generalize bufK l k = B at *
      generalize l[k] = e at *
      have FX := And.intro hat hle
      repeat' (first | refine WK.seq ?_ | refine WK.reg ?_ | refine IL.nil ?_ | refine WK.skip ?_ | refine WK.block ?_ | refine WK.exit_here ?_ | refine WK.e1 ?_ | refine WK.e2 ?_ | refine WK.drawnS (id := 18) mixed [] [9] [0, 0, 0, 0, 0, 0, 0, 0, 0, 0, 0, 0, 0, 1, 1] [0, 0, 0, 0, 0, 0, 0, 0, 0, 0, 1, 1, 1, 1, 1] (by decide +kernel) ?_ | refine DW.nil ?_ | (with_reducible refine IL.wr ?_ ?_; focus exact cW) | (with_reducible refine DW.wr ?_ ?_; focus exact cW) | refine IL.sgF ttok ?_ | refine IL.nn ?_ | refine DW.reF ttok ?_ | refine DW.rmF ttok ?_ | refine DW.nn ?_ | refine DW.nb ?_ | refine IL.cSF ttok ent6 [] true ?_ (hS := by exact anchor11) | refine IL.cSF ttok ent7 [.bor] true ?_ (hS := by exact hri) | refine IL.cSF ttok ent8 [.bor] true ?_ (hS := by exact hsm) | refine IL.cSF ttok ent9 [.own, .bor] false ?_ (hS := by exact hpu) | refine IL.cSF ttok ent10 [.bor] false ?_ (hS := by exact hvs) | refine IL.cSF ttok ent11 [.own, .bor] false ?_ (hS := by exact hta) | refine IL.cSF ttok ent15 [.bor, .bor, .bor] false ?_ (hS := by exact hcw) | refine IL.cSF ttok ent20 [.own, .bor] false ?_ (hS := by first | exact hwa | exact hwb) | refine DW.cSF ttok ent21 [.bor, .bor] true ?_ (hS := by exact hrg) | refine IL.cSF ttok ent22 [.own, .bor] false ?_ (hS := by exact hdr) | refine IL.cSF ttok ent23 [.own] false ?_ (hS := by exact hle0) | ((first | ((first | refine IL.ag (fun h => ?_) (fun h => ?_) | refine DW.ag (fun h => ?_) (fun h => ?_) | refine IL.ap (fun h => ?_) (fun h => ?_) | refine DW.ap (fun h => ?_) (fun h => ?_)); (fail_if_success (focus (simp only [reduceCtorEq] at h)))) | refine WK.cn (fun h => ?_) (fun h => ?_)); all_goals first | (simp only [reduceCtorEq] at h; done) | (simp only [hsA, hsD, hsE, ne_eq] at h; first | done | (exfalso; omega; done) | skip) | skip))
      all_goals try ((first | refine WK.ret ⟨.inr rfl, ?_⟩ | refine ⟨.inl rfl, ?_⟩ | refine ⟨.inl trivial, ?_⟩); refine Fin.o ?_ ?_ (h1 := by first | rfl | (simp only [go_sem, show Try.f4.results.toList = [.tmp 4] from rfl, reduceIte] <;> rfl)); rotate_left 1; (focus (first | rfl | skip)); all_goals try with_reducible rfl)
      refine ⟨hnx, ?_⟩
      (refine Weak.renS [0, 5] hfx rfl ?_ ?_ rfl <;> (simp only [go_sem, reduceIte, exists_eq_left', exists_eq_left, Blk.mk.injEq] <;> (try and_intros) <;> first | rfl | omega))
    · rw [if_neg hh] at hnx ⊢
      have hpu := put_ok (bufK l k) l[k] hbs hnb hg.n (by omega) (Bool.eq_false_iff.2 hh) (by omega)
      rw [envC_eq] at hpu
      clear hh hb2 hbk htk hx hb
      generalize putE (bufK l k) l[k] = B2 at *
      generalize bufK l k = B at *
      generalize l[k] = e at *
      have FX := And.intro hat hle
      repeat' (first | refine WK.seq ?_ | refine WK.reg ?_ | refine IL.nil ?_ | refine WK.skip ?_ | refine WK.block ?_ | refine WK.exit_here ?_ | refine WK.e1 ?_ | refine WK.e2 ?_ | refine WK.drawnS (id := 18) mixed [] [9] [0, 0, 0, 0, 0, 0, 0, 0, 0, 0, 0, 0, 0, 1, 1] [0, 0, 0, 0, 0, 0, 0, 0, 0, 0, 1, 1, 1, 1, 1] (by decide +kernel) ?_ | refine DW.nil ?_ | (with_reducible refine IL.wr ?_ ?_; focus exact cW) | (with_reducible refine DW.wr ?_ ?_; focus exact cW) | refine IL.sgF ttok ?_ | refine IL.nn ?_ | refine DW.reF ttok ?_ | refine DW.rmF ttok ?_ | refine DW.nn ?_ | refine DW.nb ?_ | refine IL.cSF ttok ent6 [] true ?_ (hS := by exact anchor11) | refine IL.cSF ttok ent7 [.bor] true ?_ (hS := by exact hri) | refine IL.cSF ttok ent8 [.bor] true ?_ (hS := by exact hsm) | refine IL.cSF ttok ent9 [.own, .bor] false ?_ (hS := by exact hpu) | refine IL.cSF ttok ent10 [.bor] false ?_ (hS := by exact hvs) | refine IL.cSF ttok ent11 [.own, .bor] false ?_ (hS := by exact hta) | refine IL.cSF ttok ent15 [.bor, .bor, .bor] false ?_ (hS := by exact hcw) | refine IL.cSF ttok ent20 [.own, .bor] false ?_ (hS := by first | exact hwa | exact hwb) | refine DW.cSF ttok ent21 [.bor, .bor] true ?_ (hS := by exact hrg) | refine IL.cSF ttok ent22 [.own, .bor] false ?_ (hS := by exact hdr) | refine IL.cSF ttok ent23 [.own] false ?_ (hS := by exact hle0) | ((first | ((first | refine IL.ag (fun h => ?_) (fun h => ?_) | refine DW.ag (fun h => ?_) (fun h => ?_) | refine IL.ap (fun h => ?_) (fun h => ?_) | refine DW.ap (fun h => ?_) (fun h => ?_)); (fail_if_success (focus (simp only [reduceCtorEq] at h)))) | refine WK.cn (fun h => ?_) (fun h => ?_)); all_goals first | (simp only [reduceCtorEq] at h; done) | (simp only [hsA, hsD, hsE, ne_eq] at h; first | done | (exfalso; omega; done) | skip) | skip))
      all_goals try ((first | refine WK.ret ⟨.inr rfl, ?_⟩ | refine ⟨.inl rfl, ?_⟩ | refine ⟨.inl trivial, ?_⟩); refine Fin.o ?_ ?_ (h1 := by first | rfl | (simp only [go_sem, show Try.f4.results.toList = [.tmp 4] from rfl, reduceIte] <;> rfl)); rotate_left 1; (focus (first | rfl | skip)); all_goals try with_reducible rfl)
      refine ⟨hnx, ?_⟩
      (refine Weak.renS [0, 5] hfx rfl ?_ ?_ rfl <;> (simp only [go_sem, reduceIte, exists_eq_left', exists_eq_left, Blk.mk.injEq] <;> (try and_intros) <;> first | rfl | omega))
  rw [List.take_length] at ho
  obtain ⟨hb, hok⟩ := ho
  have hbl := hb.len
  generalize bufK l l.length = B0 at *
  have hokB : ∀ x ∈ B0, okE x := hb.ok
  have hwv := wantV_vec B0 hokB
  have hjv := Vc.join_vec hv0v hwv
  have hwa := SCall.frz (wants_call B0 v0 hv0v (by omega) hokB (by omega)) rfl
  simp only [frzR] at hwa
  have hwb := wants_call B0 (Vc.joinV v0 (wantV B0)) hjv (by have := hjv.len; omega) hokB (by omega)
  rw [lack_none hv0v hokB] at hwb
  have hlw := lrn_want hv0v hokB
  have hcv := cvE_want hv0v hokB
  have hgs : ∀ g ∈ Vc.lackV v0 (wantV B0), ∃ x ∈ wantV B0, g = (x.1, Vc.getV v0 x.1 + 1, x.2) ∧ Vc.getV v0 x.1 < x.2 := fun g hg => lack_mem hg
  have hgl : (Vc.lackV v0 (wantV B0)).length ≤ 65536 := Nat.le_trans (Vc.lackV_le v0 (wantV B0)) hwv.len
  generalize Vc.lackV v0 (wantV B0) = gs at *
  repeat' (first | refine WK.seq ?_ | refine WK.reg ?_ | refine IL.nil ?_ | refine WK.skip ?_ | refine WK.block ?_ | refine WK.exit_here ?_ | refine WK.e1 ?_ | refine WK.e2 ?_ | refine WK.drawnS (id := 18) mixed [] [9] [0, 0, 0, 0, 0, 0, 0, 0, 0, 0, 0, 0, 0, 1, 1] [0, 0, 0, 0, 0, 0, 0, 0, 0, 0, 1, 1, 1, 1, 1] (by decide +kernel) ?_ | refine DW.nil ?_ | (with_reducible refine IL.wr ?_ ?_; focus exact cW) | (with_reducible refine DW.wr ?_ ?_; focus exact cW) | refine IL.sg ttok ?_ | refine IL.nn ?_ | refine DW.re ttok ?_ | refine DW.rm ttok ?_ | refine DW.nn ?_ | refine DW.nb ?_ | refine IL.cS ttok ent6 [] true ?_ (hS := by exact anchor11) | refine IL.cS ttok ent7 [.bor] true ?_ (hS := by exact hri) | refine IL.cS ttok ent8 [.bor] true ?_ (hS := by exact hsm) | refine IL.cS ttok ent9 [.own, .bor] false ?_ (hS := by exact hpu) | refine IL.cS ttok ent10 [.bor] false ?_ (hS := by exact hvs) | refine IL.cS ttok ent11 [.own, .bor] false ?_ (hS := by exact hta) | refine IL.cS ttok ent15 [.bor, .bor, .bor] false ?_ (hS := by exact hcw) | refine IL.cS ttok ent20 [.own, .bor] false ?_ (hS := by first | exact hwa | exact hwb) | refine DW.cS ttok ent21 [.bor, .bor] true ?_ (hS := by exact hrg) | refine IL.cS ttok ent22 [.own, .bor] false ?_ (hS := by exact hdr) | refine IL.cS ttok ent23 [.own] false ?_ (hS := by exact hle0) | ((first | ((first | refine IL.ag (fun h => ?_) (fun h => ?_) | refine DW.ag (fun h => ?_) (fun h => ?_) | refine IL.ap (fun h => ?_) (fun h => ?_) | refine DW.ap (fun h => ?_) (fun h => ?_)); (fail_if_success (focus (simp only [reduceCtorEq] at h)))) | refine WK.cn (fun h => ?_) (fun h => ?_)); all_goals first | (simp only [reduceCtorEq] at h; done) | (simp only [hsA, hsD, hsE, ne_eq] at h; first | done | (exfalso; omega; done) | skip) | skip))
  refine WK.forS gs.length (fun k => Vc.Vec ((gs.take k).foldl lrn v0)) (fun k => ⟨99, [(0, .tr l.length (encs envC l)), (5, .ptr 0 0 0), (8, .tr v0.length (encs Vc.veC v0)), (9, .tr ((gs.take k).foldl lrn v0).length (encs Vc.veC ((gs.take k).foldl lrn v0))), (40, .tr gs.length (encs Vc.gpC gs)), (41, .v (.int .i64 gs.length)), (42, .v (.int .i64 k))], [some ⟨false, 0, 1, false, [.sl 1 0 0 B0.length], 0, false⟩, some ⟨true, 36, B0.length, false, encs envC B0, 0, false⟩]⟩) ⟨hv0v, ?_⟩ (fun k hk ho => ?_) (fun ho => ?_)
  · rw [List.take_zero, List.foldl_nil]
    (refine Weak.renS [0, 2] hfx rfl ?_ ?_ rfl <;> (simp only [go_sem, reduceIte, exists_eq_left', exists_eq_left, Blk.mk.injEq] <;> (try and_intros) <;> first | rfl | omega))
  · have hx : gs[k]? = some gs[k] := List.getElem?_eq_getElem hk
    obtain ⟨x, hxw, hge, hlt⟩ := hgs _ (List.getElem_mem hk)
    have hli : k * 3 + 3 ≤ gs.length * 3 := by omega
    have hat : ((encs Vc.gpC gs).drop (k * 3)).take 3 = [.v (.int .u16 x.1), .v (.int .u32 (Vc.getV v0 x.1 + 1)), .v (.int .u32 x.2)] := (encs_at Vc.gpC_length hx).trans (by rw [hge]; rfl)
    have hne : encs Vc.gpC gs ≠ [] := encs_ne Vc.gpC_length (by decide) hx
    have hxb := hwv.b x hxw
    have hrg := Vc.refGet_call v0 x.1 hv0v.s (by omega)
    have hab := Vc.getV_bd hv0v.ok x.1
    have htk : (gs.take (k + 1)).foldl lrn v0 = Vc.withV ((gs.take k).foldl lrn v0) x.1 x.2 := by rw [List.take_add_one, hx, List.foldl_append, hge]; rfl
    rw [htk]
    generalize (gs.take k).foldl lrn v0 = n at *
    have hcw := SCall.frz (Vc.with_call n x.1 x.2 ho hxb.1 (by omega) (by have := ho.len; omega)) rfl
    simp only [frzR] at hcw
    have hwv2 := Vc.withV_vec ho hxb.1 (q := x.2) (by omega)
    have hw : IntKind.u32.wrap (Vc.getV v0 x.1 + 1 - 1) = Vc.getV v0 x.1 := by rw [wrap_u32 (by omega) (by omega)]; omega
    clear hge hx hgs htk hwa hwb hlw hcv
    generalize Vc.getV v0 x.1 = a at *
    generalize Vc.withV n x.1 x.2 = n2 at *
    obtain ⟨r, q⟩ := x
    simp only at *
    have FX := And.intro hat (And.intro hli hw)
    repeat' (first | refine WK.seq ?_ | refine WK.reg ?_ | refine IL.nil ?_ | refine WK.skip ?_ | refine WK.block ?_ | refine WK.exit_here ?_ | refine WK.e1 ?_ | refine WK.e2 ?_ | refine WK.drawnS (id := 18) mixed [] [9] [0, 0, 0, 0, 0, 0, 0, 0, 0, 0, 0, 0, 0, 1, 1] [0, 0, 0, 0, 0, 0, 0, 0, 0, 0, 1, 1, 1, 1, 1] (by decide +kernel) ?_ | refine DW.nil ?_ | (with_reducible refine IL.wr ?_ ?_; focus exact cW) | (with_reducible refine DW.wr ?_ ?_; focus exact cW) | refine IL.sgF ttok ?_ | refine IL.nn ?_ | refine DW.reF ttok ?_ | refine DW.rmF ttok ?_ | refine DW.nn ?_ | refine DW.nb ?_ | refine IL.cSF ttok ent6 [] true ?_ (hS := by exact anchor11) | refine IL.cSF ttok ent7 [.bor] true ?_ (hS := by exact hri) | refine IL.cSF ttok ent8 [.bor] true ?_ (hS := by exact hsm) | refine IL.cSF ttok ent9 [.own, .bor] false ?_ (hS := by exact hpu) | refine IL.cSF ttok ent10 [.bor] false ?_ (hS := by exact hvs) | refine IL.cSF ttok ent11 [.own, .bor] false ?_ (hS := by exact hta) | refine IL.cSF ttok ent15 [.bor, .bor, .bor] false ?_ (hS := by exact hcw) | refine IL.cSF ttok ent20 [.own, .bor] false ?_ (hS := by first | exact hwa | exact hwb) | refine DW.cSF ttok ent21 [.bor, .bor] true ?_ (hS := by exact hrg) | refine IL.cSF ttok ent22 [.own, .bor] false ?_ (hS := by exact hdr) | refine IL.cSF ttok ent23 [.own] false ?_ (hS := by exact hle0) | ((first | ((first | refine IL.ag (fun h => ?_) (fun h => ?_) | refine DW.ag (fun h => ?_) (fun h => ?_) | refine IL.ap (fun h => ?_) (fun h => ?_) | refine DW.ap (fun h => ?_) (fun h => ?_)); (fail_if_success (focus (simp only [reduceCtorEq] at h)))) | refine WK.cn (fun h => ?_) (fun h => ?_)); all_goals first | (simp only [reduceCtorEq] at h; done) | (simp only [hsA, hsD, hsE, ne_eq] at h; first | done | (exfalso; omega; done) | skip) | skip))
    refine ⟨hwv2, ?_⟩
    (refine Weak.renS [0, 1] hfx rfl ?_ ?_ rfl <;> (simp only [go_sem, reduceIte, exists_eq_left', exists_eq_left, Blk.mk.injEq] <;> (try and_intros) <;> first | rfl | omega))
  · rw [List.take_length, hlw]
    have hjl := hjv.len
    generalize Vc.joinV v0 (wantV B0) = nw at *
    clear hgs hwa hlw hwv hgl ho
    generalize encs Vc.gpC gs = gz at *
    simp only [List.length_nil, encs_nil] at hwb
    repeat' (first | refine WK.seq ?_ | refine WK.reg ?_ | refine IL.nil ?_ | refine WK.skip ?_ | refine WK.block ?_ | refine WK.exit_here ?_ | refine WK.e1 ?_ | refine WK.e2 ?_ | refine WK.drawnS (id := 18) mixed [] [9] [0, 0, 0, 0, 0, 0, 0, 0, 0, 0, 0, 0, 0, 1, 1] [0, 0, 0, 0, 0, 0, 0, 0, 0, 0, 1, 1, 1, 1, 1] (by decide +kernel) ?_ | refine DW.nil ?_ | (with_reducible refine IL.wr ?_ ?_; focus exact cW) | (with_reducible refine DW.wr ?_ ?_; focus exact cW) | refine IL.sg ttok ?_ | refine IL.nn ?_ | refine DW.re ttok ?_ | refine DW.rm ttok ?_ | refine DW.nn ?_ | refine DW.nb ?_ | refine IL.cS ttok ent6 [] true ?_ (hS := by exact anchor11) | refine IL.cS ttok ent7 [.bor] true ?_ (hS := by exact hri) | refine IL.cS ttok ent8 [.bor] true ?_ (hS := by exact hsm) | refine IL.cS ttok ent9 [.own, .bor] false ?_ (hS := by exact hpu) | refine IL.cS ttok ent10 [.bor] false ?_ (hS := by exact hvs) | refine IL.cS ttok ent11 [.own, .bor] false ?_ (hS := by exact hta) | refine IL.cS ttok ent15 [.bor, .bor, .bor] false ?_ (hS := by exact hcw) | refine IL.cS ttok ent20 [.own, .bor] false ?_ (hS := by first | exact hwa | exact hwb) | refine DW.cS ttok ent21 [.bor, .bor] true ?_ (hS := by exact hrg) | refine IL.cS ttok ent22 [.own, .bor] false ?_ (hS := by exact hdr) | refine IL.cS ttok ent23 [.own] false ?_ (hS := by exact hle0) | ((first | ((first | refine IL.ag (fun h => ?_) (fun h => ?_) | refine DW.ag (fun h => ?_) (fun h => ?_) | refine IL.ap (fun h => ?_) (fun h => ?_) | refine DW.ap (fun h => ?_) (fun h => ?_)); (fail_if_success (focus (simp only [reduceCtorEq] at h)))) | refine WK.cn (fun h => ?_) (fun h => ?_)); all_goals first | (simp only [reduceCtorEq] at h; done) | (simp only [hsA, hsD, hsE, ne_eq] at h; first | done | (exfalso; omega; done) | skip) | skip))
    refine WK.whileS (α := Nat × List EnV × List Vc.Ve) (fun x => l.length - x.1) (fun x => x.1 + x.2.1.length ≤ l.length ∧ (∀ y ∈ x.2.1, okE y ∧ cvE x.2.2 y) ∧ Vc.Vec x.2.2) (fun x => ⟨99, [(5, .ptr 0 0 0), (9, .tr x.2.2.length (encs Vc.veC x.2.2)), (73, .v (.int .i64 l.length)), (74, .v (.int .i64 (x.1 : Int)))], [some ⟨false, 0, 1, false, [.sl 1 0 0 x.2.1.length], 0, false⟩, some ⟨true, 36, x.2.1.length, false, encs envC x.2.1, 0, false⟩]⟩) (0, B0, nw) ⟨⟨by simp only; omega, fun y hy => ⟨hokB y hy, hcv y hy⟩, hjv⟩, ?_⟩ ?_
    · (refine Weak.renS [0, 3] hfx rfl ?_ ?_ rfl <;> (simp only [go_sem, reduceIte, exists_eq_left', exists_eq_left, Blk.mk.injEq] <;> (try and_intros) <;> first | rfl | omega))
    rintro ⟨j, B, v⟩ ⟨q1, q3, q4⟩
    simp only at q1 q3 q4 ⊢
    clear hb hbl hv0v hvs hri hwb hcv hjv hjl hokB
    have hB : B.length ≤ 60 := by omega
    have hvl := q4.len
    have hle0 := len_call []
    have hdrp : (∀ y ∈ B, pastE v y = true) → SCall Try.prog 22 [bufO B, .tr v.length (encs Vc.veC v)] (.v (.int .i64 (B.length : Int))) [bufO [], .tr v.length (encs Vc.veC v)] := fun hp => by
      have h := drop_call B v (fun x hx => (q3 x hx).1) (by omega) q4 (by omega)
      rw [keepE_nil hp, show ((B.length : Int) - (([] : List EnV).length : Int)) = B.length by simp] at h
      exact h
    simp only [List.length_nil, encs_nil] at hle0 hdrp
    by_cases hj : j < l.length
    rotate_left
    · have hB0 : B = [] := List.eq_nil_of_length_eq_zero (by omega)
      have hdr := hdrp (by rw [hB0]; simp)
      clear hdrp
      repeat' (first | refine WK.seq ?_ | refine WK.reg ?_ | refine IL.nil ?_ | refine WK.skip ?_ | refine WK.block ?_ | refine WK.exit_here ?_ | refine WK.e1 ?_ | refine WK.e2 ?_ | refine WK.drawnS (id := 18) mixed [] [9] [0, 0, 0, 0, 0, 0, 0, 0, 0, 0, 0, 0, 0, 1, 1] [0, 0, 0, 0, 0, 0, 0, 0, 0, 0, 1, 1, 1, 1, 1] (by decide +kernel) ?_ | refine DW.nil ?_ | (with_reducible refine IL.wr ?_ ?_; focus exact cW) | (with_reducible refine DW.wr ?_ ?_; focus exact cW) | refine IL.sg ttok ?_ | refine IL.nn ?_ | refine DW.re ttok ?_ | refine DW.rm ttok ?_ | refine DW.nn ?_ | refine DW.nb ?_ | refine IL.cS ttok ent6 [] true ?_ (hS := by exact anchor11) | refine IL.cS ttok ent7 [.bor] true ?_ (hS := by exact hri) | refine IL.cS ttok ent8 [.bor] true ?_ (hS := by exact hsm) | refine IL.cS ttok ent9 [.own, .bor] false ?_ (hS := by exact hpu) | refine IL.cS ttok ent10 [.bor] false ?_ (hS := by exact hvs) | refine IL.cS ttok ent11 [.own, .bor] false ?_ (hS := by exact hta) | refine IL.cS ttok ent15 [.bor, .bor, .bor] false ?_ (hS := by exact hcw) | refine IL.cS ttok ent20 [.own, .bor] false ?_ (hS := by first | exact hwa | exact hwb) | refine DW.cS ttok ent21 [.bor, .bor] true ?_ (hS := by exact hrg) | refine IL.cS ttok ent22 [.own, .bor] false ?_ (hS := by exact hdr) | refine IL.cS ttok ent23 [.own] false ?_ (hS := by exact hle0) | ((first | ((first | refine IL.ag (fun h => ?_) (fun h => ?_) | refine DW.ag (fun h => ?_) (fun h => ?_) | refine IL.ap (fun h => ?_) (fun h => ?_) | refine DW.ap (fun h => ?_) (fun h => ?_)); (fail_if_success (focus (simp only [reduceCtorEq] at h)))) | refine WK.cn (fun h => ?_) (fun h => ?_)); all_goals first | (simp only [reduceCtorEq] at h; done) | (simp only [hsA, hsD, hsE, ne_eq] at h; first | done | (exfalso; omega; done) | skip) | skip))
      all_goals try ((first | refine WK.ret ⟨.inr rfl, ?_⟩ | refine ⟨.inl rfl, ?_⟩ | refine ⟨.inl trivial, ?_⟩); refine Fin.o ?_ ?_ (h1 := by first | rfl | (simp only [go_sem, show Try.f4.results.toList = [.tmp 4] from rfl, reduceIte] <;> rfl)); rotate_left 1; (focus (first | rfl | skip)); all_goals try with_reducible rfl)
      all_goals first | rfl | skip
    rcases rdy_cases v B with hno | ⟨K, e, hK, hre, hno⟩
    · have hdr := hdrp fun y hy => cvE_past (q3 y hy).2 (hno y hy)
      have hta := take_none B v q4 (by omega) (fun x hx => (q3 x hx).1) (by omega) hno
      clear hdrp
      repeat' (first | refine WK.seq ?_ | refine WK.reg ?_ | refine IL.nil ?_ | refine WK.skip ?_ | refine WK.block ?_ | refine WK.exit_here ?_ | refine WK.e1 ?_ | refine WK.e2 ?_ | refine WK.drawnS (id := 18) mixed [] [9] [0, 0, 0, 0, 0, 0, 0, 0, 0, 0, 0, 0, 0, 1, 1] [0, 0, 0, 0, 0, 0, 0, 0, 0, 0, 1, 1, 1, 1, 1] (by decide +kernel) ?_ | refine DW.nil ?_ | (with_reducible refine IL.wr ?_ ?_; focus exact cW) | (with_reducible refine DW.wr ?_ ?_; focus exact cW) | refine IL.sg ttok ?_ | refine IL.nn ?_ | refine DW.re ttok ?_ | refine DW.rm ttok ?_ | refine DW.nn ?_ | refine DW.nb ?_ | refine IL.cS ttok ent6 [] true ?_ (hS := by exact anchor11) | refine IL.cS ttok ent7 [.bor] true ?_ (hS := by exact hri) | refine IL.cS ttok ent8 [.bor] true ?_ (hS := by exact hsm) | refine IL.cS ttok ent9 [.own, .bor] false ?_ (hS := by exact hpu) | refine IL.cS ttok ent10 [.bor] false ?_ (hS := by exact hvs) | refine IL.cS ttok ent11 [.own, .bor] false ?_ (hS := by exact hta) | refine IL.cS ttok ent15 [.bor, .bor, .bor] false ?_ (hS := by exact hcw) | refine IL.cS ttok ent20 [.own, .bor] false ?_ (hS := by first | exact hwa | exact hwb) | refine DW.cS ttok ent21 [.bor, .bor] true ?_ (hS := by exact hrg) | refine IL.cS ttok ent22 [.own, .bor] false ?_ (hS := by exact hdr) | refine IL.cS ttok ent23 [.own] false ?_ (hS := by exact hle0) | ((first | ((first | refine IL.ag (fun h => ?_) (fun h => ?_) | refine DW.ag (fun h => ?_) (fun h => ?_) | refine IL.ap (fun h => ?_) (fun h => ?_) | refine DW.ap (fun h => ?_) (fun h => ?_)); (fail_if_success (focus (simp only [reduceCtorEq] at h)))) | refine WK.cn (fun h => ?_) (fun h => ?_)); all_goals first | (simp only [reduceCtorEq] at h; done) | (simp only [hsA, hsD, hsE, ne_eq] at h; first | done | (exfalso; omega; done) | skip) | skip))
      all_goals try ((first | refine WK.ret ⟨.inr rfl, ?_⟩ | refine ⟨.inl rfl, ?_⟩ | refine ⟨.inl trivial, ?_⟩); refine Fin.o ?_ ?_ (h1 := by first | rfl | (simp only [go_sem, show Try.f4.results.toList = [.tmp 4] from rfl, reduceIte] <;> rfl)); rotate_left 1; (focus (first | rfl | skip)); all_goals try with_reducible rfl)
      all_goals first | rfl | skip
    have hta := take_some B v q4 (by omega) (fun x hx => (q3 x hx).1) (by omega) K e hK hre hno
    have heB := List.mem_of_getElem? hK
    have hKl : K < B.length := (List.getElem?_eq_some_iff.1 hK).1
    obtain ⟨hoe, hce⟩ := q3 e heB
    have hcw := SCall.frz (Vc.with_call v e.r e.s q4 hoe.2.1 (by have := hoe.2.2.1; omega) (by omega)) rfl
    simp only [frzR] at hcw
    have hwv := Vc.withV_vec q4 hoe.2.1 (q := e.s) (by have := hoe.2.2.1; omega)
    have hwo := without_len hKl
    have hwm : ∀ y ∈ B.take K ++ B.drop (K + 1), okE y ∧ cvE (Vc.withV v e.r e.s) y := fun y hy => by
      have h := q3 y (mem_without hy)
      exact ⟨h.1, cvE_with q4 h.1 hoe h.2 hre⟩
    rw [envC_eq] at hta
    clear q3 hno hK hre heB hl hok hdrp hce
    generalize B.take K ++ B.drop (K + 1) = B2 at *
    generalize Vc.withV v e.r e.s = v2 at *
    repeat' (first | refine WK.seq ?_ | refine WK.reg ?_ | refine IL.nil ?_ | refine WK.skip ?_ | refine WK.block ?_ | refine WK.exit_here ?_ | refine WK.e1 ?_ | refine WK.e2 ?_ | refine WK.drawnS (id := 18) mixed [] [9] [0, 0, 0, 0, 0, 0, 0, 0, 0, 0, 0, 0, 0, 1, 1] [0, 0, 0, 0, 0, 0, 0, 0, 0, 0, 1, 1, 1, 1, 1] (by decide +kernel) ?_ | refine DW.nil ?_ | (with_reducible refine IL.wr ?_ ?_; focus exact cW) | (with_reducible refine DW.wr ?_ ?_; focus exact cW) | refine IL.sg ttok ?_ | refine IL.nn ?_ | refine DW.re ttok ?_ | refine DW.rm ttok ?_ | refine DW.nn ?_ | refine DW.nb ?_ | refine IL.cS ttok ent6 [] true ?_ (hS := by exact anchor11) | refine IL.cS ttok ent7 [.bor] true ?_ (hS := by exact hri) | refine IL.cS ttok ent8 [.bor] true ?_ (hS := by exact hsm) | refine IL.cS ttok ent9 [.own, .bor] false ?_ (hS := by exact hpu) | refine IL.cS ttok ent10 [.bor] false ?_ (hS := by exact hvs) | refine IL.cS ttok ent11 [.own, .bor] false ?_ (hS := by exact hta) | refine IL.cS ttok ent15 [.bor, .bor, .bor] false ?_ (hS := by exact hcw) | refine IL.cS ttok ent20 [.own, .bor] false ?_ (hS := by first | exact hwa | exact hwb) | refine DW.cS ttok ent21 [.bor, .bor] true ?_ (hS := by exact hrg) | refine IL.cS ttok ent22 [.own, .bor] false ?_ (hS := by exact hdr) | refine IL.cS ttok ent23 [.own] false ?_ (hS := by exact hle0) | ((first | ((first | refine IL.ag (fun h => ?_) (fun h => ?_) | refine DW.ag (fun h => ?_) (fun h => ?_) | refine IL.ap (fun h => ?_) (fun h => ?_) | refine DW.ap (fun h => ?_) (fun h => ?_)); (fail_if_success (focus (simp only [reduceCtorEq] at h)))) | refine WK.cn (fun h => ?_) (fun h => ?_)); all_goals first | (simp only [reduceCtorEq] at h; done) | (simp only [hsA, hsD, hsE, ne_eq] at h; first | done | (exfalso; omega; done) | skip) | skip))
    refine ⟨(j + 1, B2, v2), by simp only; omega, ⟨by simp only; omega, hwm, hwv⟩, ?_⟩
    (refine Weak.renS [0, 2] hfx rfl ?_ ?_ rfl <;> (simp only [go_sem, reduceIte, exists_eq_left', exists_eq_left, Blk.mk.injEq] <;> (try and_intros) <;> first | rfl | omega))
end Go.Proofs.Ytclhjcbnpdlgbaa
