import Derived.Test.YtclhjcbnpdlgbaaLXEED
import Derived.Test.YtclhjcbnpdlgbaaLA3
set_option linter.unusedVariables false
set_option linter.unusedSimpArgs false
/- the document's Join. -/
namespace Go.Proofs.Ytclhjcbnpdlgbaa.Vc
open Go Go.Lift
set_option maxHeartbeats 4000000
set_option linter.unusedSimpArgs false
set_option linter.unusedVariables false
attribute [local irreducible] WK IL IP IG IW DW

theorem refJoin_call (v w : List Ve) (hv : Vec v) (hw : Vec w) :
    SCall Try.prog 71 [.tr v.length (encs veC v), .tr w.length (encs veC w)] (.tr (joinV v w).length (encs veC (joinV v w))) [.tr v.length (encs veC v), .tr w.length (encs veC w)] := by
  have hwl := hw.len
  refine SCall.of_body' (TT := TT) (fun _ => false) [false, false] ttok Try.func71 rfl (Nat.le_of_ble_eq_true rfl) rfl fun fx hfx => WK.top ?_
  simp only [impl, imp, argT, List.append_nil, List.map_nil, List.nil_append, show Try.f71.ntmps = 38 from rfl, Nat.zero_add, Nat.reduceAdd]
  repeat' (first | refine WK.seq ?_ | refine WK.reg ?_ | refine IL.nil ?_ | refine WK.skip ?_ | refine WK.block ?_ | refine WK.exit_here ?_ | refine WK.e1 ?_ | refine WK.e2 ?_ | refine WK.drawnS (id := 4) mixed [] [6] [0, 0, 0, 0, 0, 0, 0, 0, 0, 0, 0, 0, 1] [0, 0, 0, 0, 0, 0, 0, 1, 1, 1, 1, 1, 1] (by decide +kernel) ?_ | refine WK.drawnS (id := 5) mixed [] [11] [0, 0, 0, 0, 0, 0, 0, 0, 0, 0, 0, 0, 1] [0, 0, 0, 0, 0, 0, 0, 0, 0, 0, 0, 0, 1] (by decide +kernel) ?_ | refine DW.nil ?_ | (with_reducible refine IL.wr ?_ ?_; focus exact cW) | (with_reducible refine DW.wr ?_ ?_; focus exact cW) | refine IL.sg ttok ?_ | refine DW.re ttok ?_ | refine DW.rm ttok ?_ | refine DW.cS ttok ent14 [.bor, .bor, .bor] false ?_ (hS := by exact hwi) | refine DW.cS ttok ent21 [.bor, .bor] true ?_ (hS := by exact hge) | (refine WK.cn (fun h => ?_) (fun h => ?_); all_goals first | (simp only [reduceCtorEq] at h; done) | (simp only [hsA, hsD, hsE, ne_eq] at h; first | done | (exfalso; omega; done) | skip) | skip))
  refine WK.forS w.length (fun k => True) (fun k => ⟨38, [(0, .tr (joinV v (w.take k)).length (encs veC (joinV v (w.take k)))), (1, .tr w.length (encs veC w)), (5, .v (.int .i64 k))], []⟩) ⟨trivial, ?_⟩ (fun k hk ho => ?_) (fun ho => ?_)
  · (refine Weak.renS [] hfx rfl ?_ ?_ rfl <;> (simp only [go_sem, reduceIte, exists_eq_left', exists_eq_left, Blk.mk.injEq, List.take_zero, joinV, List.foldl_nil] <;> (try and_intros) <;> first | rfl | omega))
  · have hx : w[k]? = some w[k] := List.getElem?_eq_getElem hk
    have htj : w.take (k + 1) = w.take k ++ [w[k]] := by rw [List.take_add_one, hx]; rfl
    have hat1 : (encs veC w)[k * 2 + 0]? = some (.v (.int .u16 w[k].1)) := encs_get veC_length hx (by decide)
    rw [Nat.add_zero] at hat1
    have hat2 : (encs veC w)[k * 2 + 1]? = some (.v (.int .u32 w[k].2)) := encs_get veC_length hx (by decide)
    have hle : k * 2 + 2 ≤ w.length * 2 := by omega
    have hne : encs veC w ≠ [] := encs_ne veC_length (by decide) hx
    have hxb := hw.b _ (List.getElem_mem hk)
    have ho2 : Vec (joinV v (w.take k)) := (joinV_vec hv fun x hx => hw.b x (List.mem_of_mem_take hx)).1
    rw [htj, joinV_snoc]
    clear htj hx
    generalize w[k] = x at *
    generalize joinV v (w.take k) = o2 at *
    have hol := ho2.len
    have hge := refGet_call o2 x.1 ho2.s (by omega)
    have hwi := SCall.frz (refWith_call o2 x.1 x.2 (by omega)) rfl
    simp only [frzR] at hwi
    unfold addV
    generalize getV o2 x.1 = g at *
    generalize withV o2 x.1 x.2 = o3 at *
    have FX := And.intro hat1 (And.intro hat2 hle)
    repeat' (first | refine WK.seq ?_ | refine WK.reg ?_ | refine IL.nil ?_ | refine WK.skip ?_ | refine WK.block ?_ | refine WK.exit_here ?_ | refine WK.e1 ?_ | refine WK.e2 ?_ | refine WK.drawnS (id := 4) mixed [] [6] [0, 0, 0, 0, 0, 0, 0, 0, 0, 0, 0, 0, 1] [0, 0, 0, 0, 0, 0, 0, 1, 1, 1, 1, 1, 1] (by decide +kernel) ?_ | refine WK.drawnS (id := 5) mixed [] [11] [0, 0, 0, 0, 0, 0, 0, 0, 0, 0, 0, 0, 1] [0, 0, 0, 0, 0, 0, 0, 0, 0, 0, 0, 0, 1] (by decide +kernel) ?_ | refine DW.nil ?_ | (with_reducible refine IL.wr ?_ ?_; focus exact cW) | (with_reducible refine DW.wr ?_ ?_; focus exact cW) | refine IL.sgF ttok ?_ | refine DW.reF ttok ?_ | refine DW.rmF ttok ?_ | refine DW.cSF ttok ent14 [.bor, .bor, .bor] false ?_ (hS := by exact hwi) | refine DW.cSF ttok ent21 [.bor, .bor] true ?_ (hS := by exact hge) | (refine WK.cn (fun h => ?_) (fun h => ?_); all_goals first | (simp only [reduceCtorEq] at h; done) | (simp only [hsA, hsD, hsE, ne_eq] at h; first | done | (exfalso; omega; done) | skip) | skip))
    · rw [if_pos h]
      refine ⟨trivial, ?_⟩
      (refine Weak.renS [] hfx rfl ?_ ?_ rfl <;> (simp only [go_sem, reduceIte, exists_eq_left', exists_eq_left, Blk.mk.injEq] <;> (try and_intros) <;> first | rfl | omega))
    · rw [if_neg (by omega)]
      refine ⟨trivial, ?_⟩
      (refine Weak.renS [] hfx rfl ?_ ?_ rfl <;> (simp only [go_sem, reduceIte, exists_eq_left', exists_eq_left, Blk.mk.injEq] <;> (try and_intros) <;> first | rfl | omega))
  · rw [List.take_length]
    repeat' (first | refine WK.seq ?_ | refine WK.reg ?_ | refine IL.nil ?_ | refine WK.skip ?_ | refine WK.block ?_ | refine WK.exit_here ?_ | refine WK.e1 ?_ | refine WK.e2 ?_ | refine WK.drawnS (id := 4) mixed [] [6] [0, 0, 0, 0, 0, 0, 0, 0, 0, 0, 0, 0, 1] [0, 0, 0, 0, 0, 0, 0, 1, 1, 1, 1, 1, 1] (by decide +kernel) ?_ | refine WK.drawnS (id := 5) mixed [] [11] [0, 0, 0, 0, 0, 0, 0, 0, 0, 0, 0, 0, 1] [0, 0, 0, 0, 0, 0, 0, 0, 0, 0, 0, 0, 1] (by decide +kernel) ?_ | refine DW.nil ?_ | (with_reducible refine IL.wr ?_ ?_; focus exact cW) | (with_reducible refine DW.wr ?_ ?_; focus exact cW) | refine IL.sg ttok ?_ | refine DW.re ttok ?_ | refine DW.rm ttok ?_ | refine DW.cS ttok ent14 [.bor, .bor, .bor] false ?_ (hS := by exact hwi) | refine DW.cS ttok ent21 [.bor, .bor] true ?_ (hS := by exact hge) | (refine WK.cn (fun h => ?_) (fun h => ?_); all_goals first | (simp only [reduceCtorEq] at h; done) | (simp only [hsA, hsD, hsE, ne_eq] at h; first | done | (exfalso; omega; done) | skip) | skip))
    all_goals try ((first | refine WK.ret ⟨.inr rfl, ?_⟩ | refine ⟨.inl rfl, ?_⟩ | refine ⟨.inl trivial, ?_⟩); refine Fin.o ?_ ?_ (h1 := by first | rfl | (simp only [go_sem, show Try.f71.results.toList = [.tmp 4] from rfl, reduceIte] <;> rfl)); rotate_left 1; (focus (first | rfl | skip)); all_goals try with_reducible rfl)
    all_goals skip
end Go.Proofs.Ytclhjcbnpdlgbaa.Vc
/- the document's buffer: wants; the same envelope, the same gaps. -/
namespace Go.Proofs.Ytclhjcbnpdlgbaa
open Go Go.Lift
set_option maxHeartbeats 4000000
set_option linter.unusedSimpArgs false
set_option linter.unusedVariables false
attribute [local irreducible] WK IL IP IG IW DW

theorem sameE_yes (e : EnV) (hx : e.d.length ≤ 100000) (h72 : e.ops.length * 72 ≤ 140737488355328) (h16 : ∀ o ∈ e.ops, o.s.length * 16 ≤ 140737488355328) : SCall Try.prog 27 [.agg (envC e), .agg (envC e)] (.v (.bool true)) [.agg (envC e), .agg (envC e)] := by
  have hsv := sameV_call e.d e.d hx
  rw [decide_eq_true rfl] at hsv
  have hmt := SCall.frz (madeTxn_call e.r e.s e.c e.u e.ops e.ops.length rfl h72 h16) rfl
  simp only [frzR, frzRl] at hmt
  have hst := sameTxn_call e.r e.s e.c e.u e.ops e.ops.length e.ops.length rfl rfl h72 h16
  rw [envC_eq]
  refine SCall.of_body' (TT := TT) (fun _ => false) [false, false] ttok Try.func27 rfl (Nat.le_of_ble_eq_true rfl) rfl fun fx hfx => WK.top ?_
  simp only [impl, imp, argT, List.append_nil, List.map_nil, List.nil_append, show Try.f27.ntmps = 18 from rfl, Nat.zero_add, Nat.reduceAdd]
  repeat' (first | refine WK.seq ?_ | refine WK.reg ?_ | refine IL.nil ?_ | refine WK.drawnS (id := 1) mixed [] [4, 8, 11] [0, 0, 0, 0, 0, 1, 1, 1, 1, 1, 1, 2, 3, 3] [0, 0, 0, 0, 0, 1, 1, 1, 1, 2, 2, 2, 3, 3] (by decide +kernel) ?_ | refine DW.nil ?_ | (with_reducible refine IL.wr ?_ ?_; focus exact cW) | (with_reducible refine DW.wr ?_ ?_; focus exact cW) | refine IL.sg ttok ?_ | refine DW.re ttok ?_ | refine DW.rm ttok ?_ | refine DW.nn ?_ | refine DW.nb ?_ | refine DW.cS ttok ent19 [.bor, .bor] true ?_ (hS := by exact hsv) | refine DW.cS ttok ent39 [.bor] false ?_ (hS := by exact hmt) | refine DW.cS ttok ent51 [.bor, .bor] true ?_ (hS := by exact hst) | (((first | refine DW.ag (fun h => ?_) (fun h => ?_) | refine DW.ap (fun h => ?_) (fun h => ?_)); (fail_if_success (focus (simp only [reduceCtorEq] at h)))); all_goals first | (simp only [reduceCtorEq] at h; done) | (simp only [hsA, hsD, hsE, ne_eq] at h; first | done | (exfalso; omega; done) | skip) | skip))
  all_goals try ((first | refine WK.ret ⟨.inr rfl, ?_⟩ | refine ⟨.inl rfl, ?_⟩ | refine ⟨.inl trivial, ?_⟩); refine Fin.o ?_ ?_ (h1 := by first | rfl | (simp only [go_sem, show Try.f27.results.toList = [.tmp 4] from rfl, reduceIte] <;> rfl)); rotate_left 1; (focus (first | rfl | skip)); all_goals try with_reducible rfl)
  all_goals skip
theorem sameG_call (g : List Vc.Gp) (hn : g.length ≤ 100000) : SCall Try.prog 53 [.tr g.length (encs Vc.gpC g), .tr g.length (encs Vc.gpC g)] (.v (.bool true)) [.tr g.length (encs Vc.gpC g), .tr g.length (encs Vc.gpC g)] := by
  refine SCall.of_body' (TT := TT) (fun _ => false) [false, false] ttok Try.func53 rfl (Nat.le_of_ble_eq_true rfl) rfl fun fx hfx => WK.top ?_
  simp only [impl, imp, argT, List.append_nil, List.map_nil, List.nil_append, show Try.f53.ntmps = 26 from rfl, Nat.zero_add, Nat.reduceAdd]
  repeat' (first | refine WK.seq ?_ | refine WK.reg ?_ | refine IL.nil ?_ | refine WK.skip ?_ | refine WK.block ?_ | refine WK.exit_here ?_ | refine WK.e1 ?_ | refine WK.e2 ?_ | refine WK.drawnS (id := 6) mixed [] [] [] [] (by decide +kernel) ?_ | refine DW.nil ?_ | (with_reducible refine IL.wr ?_ ?_; focus exact cW) | (with_reducible refine DW.wr ?_ ?_; focus exact cW) | refine IL.sg ttok ?_ | refine DW.re ttok ?_ | refine DW.rm ttok ?_ | (refine WK.cn (fun h => ?_) (fun h => ?_); all_goals first | (simp only [reduceCtorEq] at h; done) | (simp only [hsA, hsD, hsE, ne_eq] at h; first | done | (exfalso; omega; done) | skip) | skip))
  refine WK.forS g.length (fun k => True) (fun k => ⟨26, [(0, .tr g.length (encs Vc.gpC g)), (1, .tr g.length (encs Vc.gpC g)), (12, .v (.int .i64 g.length)), (13, .v (.int .i64 k))], []⟩) ⟨trivial, ?_⟩ (fun k hk ho => ?_) (fun ho => ?_)
  · (refine Weak.renS [] hfx rfl ?_ ?_ rfl <;> (simp only [go_sem, reduceIte, exists_eq_left', exists_eq_left, Blk.mk.injEq] <;> (try and_intros) <;> first | rfl | omega))
  · have hx : g[k]? = some g[k] := List.getElem?_eq_getElem hk
    have hle : k * 3 + 3 ≤ g.length * 3 := by omega
    have hat : ((encs Vc.gpC g).drop (k * 3)).take 3 = [.v (.int .u16 g[k].1), .v (.int .u32 g[k].2.1), .v (.int .u32 g[k].2.2)] := encs_at Vc.gpC_length hx
    have hne : encs Vc.gpC g ≠ [] := encs_ne Vc.gpC_length (by decide) hx
    clear hx
    generalize g[k] = y at *
    have FX := And.intro hat hle
    repeat' (first | refine WK.seq ?_ | refine WK.reg ?_ | refine IL.nil ?_ | refine WK.skip ?_ | refine WK.block ?_ | refine WK.exit_here ?_ | refine WK.e1 ?_ | refine WK.e2 ?_ | refine WK.drawnS (id := 6) mixed [] [] [] [] (by decide +kernel) ?_ | refine DW.nil ?_ | (with_reducible refine IL.wr ?_ ?_; focus exact cW) | (with_reducible refine DW.wr ?_ ?_; focus exact cW) | refine IL.sgF ttok ?_ | refine DW.reF ttok ?_ | refine DW.rmF ttok ?_ | (refine WK.cn (fun h => ?_) (fun h => ?_); all_goals first | (simp only [reduceCtorEq] at h; done) | (simp only [hsA, hsD, hsE, ne_eq] at h; first | done | (exfalso; omega; done) | skip) | skip))
    all_goals refine ⟨trivial, ?_⟩
    (refine Weak.renS [] hfx rfl ?_ ?_ rfl <;> (simp only [go_sem, reduceIte, exists_eq_left', exists_eq_left, Blk.mk.injEq] <;> (try and_intros) <;> first | rfl | omega))
  · repeat' (first | refine WK.seq ?_ | refine WK.reg ?_ | refine IL.nil ?_ | refine WK.skip ?_ | refine WK.block ?_ | refine WK.exit_here ?_ | refine WK.e1 ?_ | refine WK.e2 ?_ | refine WK.drawnS (id := 6) mixed [] [] [] [] (by decide +kernel) ?_ | refine DW.nil ?_ | (with_reducible refine IL.wr ?_ ?_; focus exact cW) | (with_reducible refine DW.wr ?_ ?_; focus exact cW) | refine IL.sg ttok ?_ | refine DW.re ttok ?_ | refine DW.rm ttok ?_ | (refine WK.cn (fun h => ?_) (fun h => ?_); all_goals first | (simp only [reduceCtorEq] at h; done) | (simp only [hsA, hsD, hsE, ne_eq] at h; first | done | (exfalso; omega; done) | skip) | skip))
    all_goals try ((first | refine WK.ret ⟨.inr rfl, ?_⟩ | refine ⟨.inl rfl, ?_⟩ | refine ⟨.inl trivial, ?_⟩); refine Fin.o ?_ ?_ (h1 := by first | rfl | (simp only [go_sem, show Try.f53.results.toList = [.tmp 4] from rfl, reduceIte] <;> rfl)); rotate_left 1; (focus (first | rfl | skip)); all_goals try with_reducible rfl)
    all_goals skip
theorem withV_nil {r q : Int} : Vc.withV [] r q = if 0 < q then [(r, q)] else [] := by unfold Vc.withV; simp
theorem wants11_call (l : List EnV) (v : List Vc.Ve) (hv : Vc.Vec v) (hvl : v.length ≤ 100000) (hl : ∀ x ∈ l, okE x) (hn : l.length ≤ 100000) :
    SCall Try.prog 54 [.tr l.length (encs envC l), .tr v.length (encs Vc.veC v)] (.own 130 (Vc.lackV v (wantV l)).length true (encs Vc.gpC (Vc.lackV v (wantV l)))) [.tr l.length (encs envC l), .tr v.length (encs Vc.veC v)] := by
  refine SCall.of_body' (TT := TT) (fun _ => false) [false, false] ttok Try.func54 rfl (Nat.le_of_ble_eq_true rfl) rfl fun fx hfx => WK.top ?_
  simp only [impl, imp, argT, List.append_nil, List.map_nil, List.nil_append, show Try.f54.ntmps = 47 from rfl, Nat.zero_add, Nat.reduceAdd]
  repeat' (first | refine WK.seq ?_ | refine WK.reg ?_ | refine IL.nil ?_ | refine WK.skip ?_ | refine WK.block ?_ | refine WK.exit_here ?_ | refine WK.e1 ?_ | refine WK.e2 ?_ | refine WK.drawnS (id := 7) mixed [] [16] [0, 0, 0, 0, 0, 0, 0, 0, 0, 0, 0, 0, 0, 0, 0, 0, 0, 1] [0, 0, 0, 0, 0, 0, 0, 0, 0, 0, 0, 0, 0, 0, 0, 0, 0, 1] (by decide +kernel) ?_ | refine DW.nil ?_ | (with_reducible refine IL.wr ?_ ?_; focus exact cW) | (with_reducible refine DW.wr ?_ ?_; focus exact cW) | refine IL.sg ttok ?_ | refine DW.re ttok ?_ | refine DW.rm ttok ?_ | (refine DW.bst (T' := ?_) ttok rfl ?_ (fun K hK => ?_) ?_ ?_; rotate_left 1; (focus exact cG); (focus (simp only [go_sem, reduceIte]; exact cK hK)); (focus (first | exact ⟨_, rfl⟩ | rfl))) | refine IL.cS ttok ent64 [.bor, .bor] true ?_ (hS := by exact hla) | refine IL.cS ttok ent71 [.bor, .bor] false ?_ (hS := by first | exact hj1 | exact hj2) | refine DW.cS ttok ent71 [.bor, .bor] false ?_ (hS := by first | exact hj1 | exact hj2) | (refine WK.cn (fun h => ?_) (fun h => ?_); all_goals first | (simp only [reduceCtorEq] at h; done) | (simp only [hsA, hsD, hsE, ne_eq] at h; first | done | (exfalso; omega; done) | skip) | skip))
  refine WK.freeze (σ' := ?_) ttok 1 rfl rfl rfl ?_ ?_; rotate_left 1
  · simp only [go_sem, List.set_cons_zero, List.set_cons_succ]; rfl
  refine WK.forS l.length (fun k => True) (fun k => ⟨47, [(0, .tr l.length (encs envC l)), (1, .tr v.length (encs Vc.veC v)), (5, .tr (wantV (l.take k)).length (encs Vc.veC (wantV (l.take k)))), (6, .v (.int .i64 k))], []⟩) ⟨trivial, ?_⟩ (fun k hk ho => ?_) (fun ho => ?_)
  · rw [List.take_zero, show wantV [] = [] from rfl]
    (refine Weak.renS [] hfx rfl ?_ ?_ rfl <;> (simp only [go_sem, reduceIte, exists_eq_left', exists_eq_left, Blk.mk.injEq] <;> (try and_intros) <;> first | rfl | omega))
  · have hx : l[k]? = some l[k] := List.getElem?_eq_getElem hk
    have hle : k * 6 + 6 ≤ l.length * 6 := by omega
    have ha0 : (encs envC l)[k * 6 + 0]? = some (.tr l[k].d.length (encs Vc.veC l[k].d)) := encs_get envC_length hx (by decide)
    rw [Nat.add_zero] at ha0
    have ha1 : (encs envC l)[k * 6 + 1]? = some (.v (.int .u16 l[k].r)) := encs_get envC_length hx (by decide)
    have ha2 : (encs envC l)[k * 6 + 2]? = some (.v (.int .u32 l[k].s)) := encs_get envC_length hx (by decide)
    have hne : encs envC l ≠ [] := encs_ne envC_length (by decide) hx
    have htk : l.take (k + 1) = l.take k ++ [l[k]] := by rw [List.take_add_one, hx]; rfl
    have hok := hl _ (List.getElem_mem hk)
    have hwv := wantV_vec (l.take k) fun x hx => hl x (List.mem_of_mem_take hx)
    rw [htk, wantV_snoc]
    clear htk hx
    generalize l[k] = e at *
    generalize wantV (l.take k) = a at *
    have hs1 := hok.2.2.1
    have hj1 := Vc.refJoin_call a e.d hwv hok.1
    have hjv := Vc.join_vec hwv hok.1
    have hnd : needV a e = Vc.joinV (Vc.joinV a e.d) (if 1 < e.s then [(e.r, e.s - 1)] else []) := by
      show Vc.joinV (Vc.joinV a e.d) (Vc.withV [] e.r (e.s - 1)) = _
      rw [withV_nil]
      by_cases h : 1 < e.s
      · rw [if_pos h, if_pos (by omega)]
      · rw [if_neg h, if_neg (by omega)]
    rw [hnd]
    clear hnd
    generalize Vc.joinV a e.d = y at *
    by_cases h : 1 < e.s
    · have hj2 := Vc.refJoin_call y [(e.r, e.s - 1)] hjv ⟨List.pairwise_singleton _ _, fun x hx => by rw [List.mem_singleton.1 hx]; exact ⟨hok.2.1, by simp only; omega⟩⟩
      have hw1 : IntKind.u32.wrap (e.s - 1) = e.s - 1 := wrap_u32 (by omega) (by omega)
      rw [if_pos h]
      simp only [List.length_cons, List.length_nil, encs_cons, encs_nil, Nat.zero_add, List.append_nil, Vc.veC] at hj2
      generalize Vc.joinV y [(e.r, e.s - 1)] = z at *
      have FX := And.intro ha0 (And.intro ha1 (And.intro ha2 (And.intro hle hw1)))
      repeat' (first | refine WK.seq ?_ | refine WK.reg ?_ | refine IL.nil ?_ | refine WK.skip ?_ | refine WK.block ?_ | refine WK.exit_here ?_ | refine WK.e1 ?_ | refine WK.e2 ?_ | refine WK.drawnS (id := 7) mixed [] [16] [0, 0, 0, 0, 0, 0, 0, 0, 0, 0, 0, 0, 0, 0, 0, 0, 0, 1] [0, 0, 0, 0, 0, 0, 0, 0, 0, 0, 0, 0, 0, 0, 0, 0, 0, 1] (by decide +kernel) ?_ | refine DW.nil ?_ | (with_reducible refine IL.wr ?_ ?_; focus exact cW) | (with_reducible refine DW.wr ?_ ?_; focus exact cW) | refine IL.sgF ttok ?_ | refine DW.reF ttok ?_ | refine DW.rmF ttok ?_ | (refine DW.bst (T' := ?_) ttok rfl ?_ (fun K hK => ?_) ?_ ?_; rotate_left 1; (focus exact cG); (focus (simp only [go_sem, reduceIte, ha0, ha1, ha2, hle, hw1]; exact cK hK)); (focus (first | exact ⟨_, rfl⟩ | rfl))) | refine IL.cSF ttok ent64 [.bor, .bor] true ?_ (hS := by exact hla) | refine IL.cSF ttok ent71 [.bor, .bor] false ?_ (hS := by first | exact hj1 | exact hj2) | refine DW.cSF ttok ent71 [.bor, .bor] false ?_ (hS := by first | exact hj1 | exact hj2) | (refine WK.cn (fun h => ?_) (fun h => ?_); all_goals first | (simp only [reduceCtorEq] at h; done) | (simp only [hsA, hsD, hsE, ne_eq] at h; first | done | (exfalso; omega; done) | skip) | skip))
      all_goals refine ⟨trivial, ?_⟩
      (refine Weak.renS [] hfx rfl ?_ ?_ rfl <;> (simp only [go_sem, reduceIte, exists_eq_left', exists_eq_left, Blk.mk.injEq] <;> (try and_intros) <;> first | rfl | omega))
    · rw [if_neg h]
      show WK _ _ _ _ _ _
      have FX := And.intro ha0 (And.intro ha1 (And.intro ha2 hle))
      repeat' (first | refine WK.seq ?_ | refine WK.reg ?_ | refine IL.nil ?_ | refine WK.skip ?_ | refine WK.block ?_ | refine WK.exit_here ?_ | refine WK.e1 ?_ | refine WK.e2 ?_ | refine WK.drawnS (id := 7) mixed [] [16] [0, 0, 0, 0, 0, 0, 0, 0, 0, 0, 0, 0, 0, 0, 0, 0, 0, 1] [0, 0, 0, 0, 0, 0, 0, 0, 0, 0, 0, 0, 0, 0, 0, 0, 0, 1] (by decide +kernel) ?_ | refine DW.nil ?_ | (with_reducible refine IL.wr ?_ ?_; focus exact cW) | (with_reducible refine DW.wr ?_ ?_; focus exact cW) | refine IL.sgF ttok ?_ | refine DW.reF ttok ?_ | refine DW.rmF ttok ?_ | (refine DW.bst (T' := ?_) ttok rfl ?_ (fun K hK => ?_) ?_ ?_; rotate_left 1; (focus exact cG); (focus (simp only [go_sem, reduceIte, ha0, ha1, ha2, hle]; exact cK hK)); (focus (first | exact ⟨_, rfl⟩ | rfl))) | refine IL.cSF ttok ent64 [.bor, .bor] true ?_ (hS := by exact hla) | refine IL.cSF ttok ent71 [.bor, .bor] false ?_ (hS := by first | exact hj1 | exact hj2) | refine DW.cSF ttok ent71 [.bor, .bor] false ?_ (hS := by first | exact hj1 | exact hj2) | (refine WK.cn (fun h => ?_) (fun h => ?_); all_goals first | (simp only [reduceCtorEq] at h; done) | (simp only [hsA, hsD, hsE, ne_eq] at h; first | done | (exfalso; omega; done) | skip) | skip))
      all_goals refine ⟨trivial, ?_⟩
      (refine Weak.renS [] hfx rfl ?_ ?_ rfl <;> (simp only [go_sem, reduceIte, exists_eq_left', exists_eq_left, Blk.mk.injEq] <;> (try and_intros) <;> first | rfl | omega))
  · rw [List.take_length]
    have hwv := wantV_vec l hl
    have hla := Vc.refLacks_call v (wantV l) hv.s hv.ok hwv.ok hvl (by have := hwv.len; omega)
    generalize wantV l = w at *
    generalize Vc.lackV v w = y at *
    repeat' (first | refine WK.seq ?_ | refine WK.reg ?_ | refine IL.nil ?_ | refine WK.skip ?_ | refine WK.block ?_ | refine WK.exit_here ?_ | refine WK.e1 ?_ | refine WK.e2 ?_ | refine WK.drawnS (id := 7) mixed [] [16] [0, 0, 0, 0, 0, 0, 0, 0, 0, 0, 0, 0, 0, 0, 0, 0, 0, 1] [0, 0, 0, 0, 0, 0, 0, 0, 0, 0, 0, 0, 0, 0, 0, 0, 0, 1] (by decide +kernel) ?_ | refine DW.nil ?_ | (with_reducible refine IL.wr ?_ ?_; focus exact cW) | (with_reducible refine DW.wr ?_ ?_; focus exact cW) | refine IL.sg ttok ?_ | refine DW.re ttok ?_ | refine DW.rm ttok ?_ | (refine DW.bst (T' := ?_) ttok rfl ?_ (fun K hK => ?_) ?_ ?_; rotate_left 1; (focus exact cG); (focus (simp only [go_sem, reduceIte]; exact cK hK)); (focus (first | exact ⟨_, rfl⟩ | rfl))) | refine IL.cS ttok ent64 [.bor, .bor] true ?_ (hS := by exact hla) | refine IL.cS ttok ent71 [.bor, .bor] false ?_ (hS := by first | exact hj1 | exact hj2) | refine DW.cS ttok ent71 [.bor, .bor] false ?_ (hS := by first | exact hj1 | exact hj2) | (refine WK.cn (fun h => ?_) (fun h => ?_); all_goals first | (simp only [reduceCtorEq] at h; done) | (simp only [hsA, hsD, hsE, ne_eq] at h; first | done | (exfalso; omega; done) | skip) | skip))
    all_goals try ((first | refine WK.ret ⟨.inr rfl, ?_⟩ | refine ⟨.inl rfl, ?_⟩ | refine ⟨.inl trivial, ?_⟩); refine Fin.o ?_ ?_ (h1 := by first | rfl | (simp only [go_sem, show Try.f54.results.toList = [.tmp 4] from rfl, reduceIte] <;> rfl)); rotate_left 1; (focus (first | rfl | skip)); all_goals try with_reducible rfl)
    all_goals skip
end Go.Proofs.Ytclhjcbnpdlgbaa
/- do just the document's envelopes wait? -/
namespace Go.Proofs.Ytclhjcbnpdlgbaa
open Go Go.Lift
set_option maxHeartbeats 4000000
set_option linter.unusedSimpArgs false
set_option linter.unusedVariables false
attribute [local irreducible] WK IL IP IG IW DW

theorem is_call (l : List EnV) (v : List Vc.Ve) (hv : Vc.Vec v) (hvl : v.length ≤ 100000) (hl : ∀ x ∈ l, okE x) (hn : l.length ≤ 100000) :
    SCall Try.prog 30 [bufO l, .tr l.length (encs envC l), .tr v.length (encs Vc.veC v)] (.v (.bool true)) [bufO l, .tr l.length (encs envC l), .tr v.length (encs Vc.veC v)] := by
  have hna := SCall.frz (names_call l (by omega)) rfl
  simp only [frzR] at hna
  have hlc := len_call l
  have hwa := SCall.frz (wants_call l v hv hvl hl hn) rfl
  have hwr := SCall.frz (wants11_call l v hv hvl hl hn) rfl
  have hvs := SCall.frz (vecS_call v (by omega)) rfl
  simp only [frzR] at hwa hwr hvs
  have hwv := wantV_vec l hl
  have hsg := sameG_call (Vc.lackV v (wantV l)) (Nat.le_trans (Vc.lackV_le v (wantV l)) (by have := hwv.len; omega))
  generalize Vc.lackV v (wantV l) = g at *
  have hml : (l.map nmE).length = l.length := List.length_map ..
  have hmx : ∀ k (hk : k < l.length), (l.map nmE)[k]? = some (l[k].r, l[k].s) := fun k hk => by rw [List.getElem?_map, List.getElem?_eq_getElem hk]; rfl
  generalize l.map nmE = M at *
  refine SCall.of_body' (TT := TT) (fun k => decide (k < 1)) [false, false, false] ttok Try.func30 rfl (Nat.le_of_ble_eq_true rfl) rfl fun fx hfx => WK.top ?_
  simp only [impl, imp, argT, List.append_nil, List.map_nil, List.map_cons, List.nil_append, List.cons_append, List.length_cons, List.length_nil, show Try.f30.ntmps = 52 from rfl, Nat.zero_add, Nat.reduceAdd]
  repeat' (first | refine WK.seq ?_ | refine WK.reg ?_ | refine IL.nil ?_ | refine WK.skip ?_ | refine WK.block ?_ | refine WK.exit_here ?_ | refine WK.e1 ?_ | refine WK.e2 ?_ | refine WK.drawnS (id := 7) mixed [] [] [] [] (by decide +kernel) ?_ | refine DW.nil ?_ | (with_reducible refine IL.wr ?_ ?_; focus exact cW) | (with_reducible refine DW.wr ?_ ?_; focus exact cW) | refine IL.sg ttok ?_ | refine IL.nn ?_ | refine DW.re ttok ?_ | refine DW.rm ttok ?_ | refine IL.cS ttok ent10 [.bor] false ?_ (hS := by exact hvs) | refine IL.cS ttok ent16 [.own] false ?_ (hS := by exact hna) | refine IL.cS ttok ent20 [.own, .bor] false ?_ (hS := by exact hwa) | refine IL.cS ttok ent23 [.own] false ?_ (hS := by exact hlc) | refine IL.cS ttok ent53 [.bor, .bor] true ?_ (hS := by exact hsg) | refine IL.cS ttok ent54 [.bor, .bor] false ?_ (hS := by exact hwr) | ((first | ((first | refine IL.ag (fun h => ?_) (fun h => ?_) | refine IL.ap (fun h => ?_) (fun h => ?_)); (fail_if_success (focus (simp only [reduceCtorEq] at h)))) | refine WK.cn (fun h => ?_) (fun h => ?_)); all_goals first | (simp only [reduceCtorEq] at h; done) | (simp only [hsA, hsD, hsE, ne_eq] at h; first | done | (exfalso; omega; done) | skip) | skip))
  all_goals try ((first | refine WK.ret ⟨.inr rfl, ?_⟩ | refine ⟨.inl rfl, ?_⟩ | refine ⟨.inl trivial, ?_⟩); refine Fin.o ?_ ?_ (h1 := by first | rfl | (simp only [go_sem, show Try.f30.results.toList = [.tmp 6] from rfl, reduceIte] <;> rfl)); rotate_left 1; (focus (first | rfl | skip)); all_goals try with_reducible rfl)
  refine WK.forS l.length (fun k => True) (fun k => ⟨52, [(0, .ptr 0 0 0), (1, .tr l.length (encs envC l)), (2, .tr v.length (encs Vc.veC v)), (7, .tr l.length (encs Vc.veC M)), (24, .tr l.length (encs envC l)), (25, .v (.int .i64 l.length)), (26, .v (.int .i64 k))], [some ⟨false, 0, 1, false, [.sl 1 0 0 l.length], 0, false⟩, some ⟨true, 36, l.length, false, encs envC l, 0, false⟩]⟩) ⟨trivial, ?_⟩ (fun k hk ho => ?_) (fun ho => ?_)
  · (refine Weak.renP 1 [0, 3] hfx (fun k h => of_decide_eq_true h) (fun k hk => by obtain rfl : k = 0 := (by omega); exact ⟨rfl, _, rfl, rfl⟩) rfl ?_ ?_ rfl <;> (simp only [go_sem, reduceIte, exists_eq_left', exists_eq_left, Blk.mk.injEq] <;> (try and_intros) <;> first | rfl | omega))
  · have hx : l[k]? = some l[k] := List.getElem?_eq_getElem hk
    have hle : k * 6 + 6 ≤ l.length * 6 := by omega
    have hat : ((encs envC l).drop (k * 6)).take 6 = envC l[k] := encs_at envC_length hx
    have hne : encs envC l ≠ [] := encs_ne envC_length (by decide) hx
    have hm := hmx k hk
    have hlm : k * 2 + 2 ≤ M.length * 2 := by omega
    have hatm : ((encs Vc.veC M).drop (k * 2)).take 2 = [.v (.int .u16 l[k].r), .v (.int .u32 l[k].s)] := encs_at Vc.veC_length hm
    have hnm : encs Vc.veC M ≠ [] := encs_ne Vc.veC_length (by decide) hm
    rw [envC_eq] at hat
    clear hx hm hmx
    generalize l[k] = x at *
    have FX := And.intro hat (And.intro hle (And.intro hatm hlm))
    repeat' (first | refine WK.seq ?_ | refine WK.reg ?_ | refine IL.nil ?_ | refine WK.skip ?_ | refine WK.block ?_ | refine WK.exit_here ?_ | refine WK.e1 ?_ | refine WK.e2 ?_ | refine WK.drawnS (id := 7) mixed [] [] [] [] (by decide +kernel) ?_ | refine DW.nil ?_ | (with_reducible refine IL.wr ?_ ?_; focus exact cW) | (with_reducible refine DW.wr ?_ ?_; focus exact cW) | refine IL.sgF ttok ?_ | refine IL.nn ?_ | refine DW.reF ttok ?_ | refine DW.rmF ttok ?_ | refine IL.cSF ttok ent10 [.bor] false ?_ (hS := by exact hvs) | refine IL.cSF ttok ent16 [.own] false ?_ (hS := by exact hna) | refine IL.cSF ttok ent20 [.own, .bor] false ?_ (hS := by exact hwa) | refine IL.cSF ttok ent23 [.own] false ?_ (hS := by exact hlc) | refine IL.cSF ttok ent53 [.bor, .bor] true ?_ (hS := by exact hsg) | refine IL.cSF ttok ent54 [.bor, .bor] false ?_ (hS := by exact hwr) | ((first | ((first | refine IL.ag (fun h => ?_) (fun h => ?_) | refine IL.ap (fun h => ?_) (fun h => ?_)); (fail_if_success (focus (simp only [reduceCtorEq] at h)))) | refine WK.cn (fun h => ?_) (fun h => ?_)); all_goals first | (simp only [reduceCtorEq] at h; done) | (simp only [hsA, hsD, hsE, ne_eq] at h; first | done | (exfalso; omega; done) | skip) | skip))
    all_goals refine ⟨trivial, ?_⟩
    (refine Weak.renP 1 [0, 1] hfx (fun k h => of_decide_eq_true h) (fun k hk => by obtain rfl : k = 0 := (by omega); exact ⟨rfl, _, rfl, rfl⟩) rfl ?_ ?_ rfl <;> (simp only [go_sem, reduceIte, exists_eq_left', exists_eq_left, Blk.mk.injEq] <;> (try and_intros) <;> first | rfl | omega))
  · repeat' (first | refine WK.seq ?_ | refine WK.reg ?_ | refine IL.nil ?_ | refine WK.skip ?_ | refine WK.block ?_ | refine WK.exit_here ?_ | refine WK.e1 ?_ | refine WK.e2 ?_ | refine WK.drawnS (id := 7) mixed [] [] [] [] (by decide +kernel) ?_ | refine DW.nil ?_ | (with_reducible refine IL.wr ?_ ?_; focus exact cW) | (with_reducible refine DW.wr ?_ ?_; focus exact cW) | refine IL.sg ttok ?_ | refine IL.nn ?_ | refine DW.re ttok ?_ | refine DW.rm ttok ?_ | refine IL.cS ttok ent10 [.bor] false ?_ (hS := by exact hvs) | refine IL.cS ttok ent16 [.own] false ?_ (hS := by exact hna) | refine IL.cS ttok ent20 [.own, .bor] false ?_ (hS := by exact hwa) | refine IL.cS ttok ent23 [.own] false ?_ (hS := by exact hlc) | refine IL.cS ttok ent53 [.bor, .bor] true ?_ (hS := by exact hsg) | refine IL.cS ttok ent54 [.bor, .bor] false ?_ (hS := by exact hwr) | ((first | ((first | refine IL.ag (fun h => ?_) (fun h => ?_) | refine IL.ap (fun h => ?_) (fun h => ?_)); (fail_if_success (focus (simp only [reduceCtorEq] at h)))) | refine WK.cn (fun h => ?_) (fun h => ?_)); all_goals first | (simp only [reduceCtorEq] at h; done) | (simp only [hsA, hsD, hsE, ne_eq] at h; first | done | (exfalso; omega; done) | skip) | skip))
    all_goals try ((first | refine WK.ret ⟨.inr rfl, ?_⟩ | refine ⟨.inl rfl, ?_⟩ | refine ⟨.inl trivial, ?_⟩); refine Fin.o ?_ ?_ (h1 := by first | rfl | (simp only [go_sem, show Try.f30.results.toList = [.tmp 6] from rfl, reduceIte] <;> rfl)); rotate_left 1; (focus (first | rfl | skip)); all_goals try with_reducible rfl)
    all_goals skip
end Go.Proofs.Ytclhjcbnpdlgbaa
/- HoldPlays: its function. -/
namespace Go.Proofs.Ytclhjcbnpdlgbaa
open Go Go.Lift
set_option maxHeartbeats 8000000
set_option linter.unusedSimpArgs false
set_option linter.unusedVariables false
attribute [local irreducible] WK IL IP IG IW DW

structure PlO where
  k : Int
  e : EnV
  h : List Vc.Ve
def plC (o : PlO) : List IV := [.v (.int .i64 o.k), .tr o.e.d.length (encs Vc.veC o.e.d), .v (.int .u16 o.e.r), .v (.int .u32 o.e.s), .v (.int .u64 o.e.c), .v (.int .i64 o.e.u), .tr o.e.ops.length (encs opC o.e.ops), .tr o.h.length (encs Vc.veC o.h)]
instance : CellsT plC 8 := ⟨fun _ => rfl, fun _ => rfl⟩
theorem plC_eq (o : PlO) : plC o = [.v (.int .i64 o.k), .tr o.e.d.length (encs Vc.veC o.e.d), .v (.int .u16 o.e.r), .v (.int .u32 o.e.s), .v (.int .u64 o.e.c), .v (.int .i64 o.e.u), .tr o.e.ops.length (encs opC o.e.ops), .tr o.h.length (encs Vc.veC o.h)] := rfl
theorem plC_length (o : PlO) : (plC o).length = 8 := rfl
structure BInv (B : List EnV) : Prop where
  s : SrtE B
  n : B.length ≤ 64
  ok : ∀ x ∈ B, okE x
  g : ∀ x ∈ B, GE x
theorem keepE_inv {B : List EnV} (h : BInv B) (v : List Vc.Ve) : BInv (keepE v B) :=
  ⟨List.Pairwise.filter _ h.s, Nat.le_trans (List.length_filter_le _ _) h.n, fun x hx => h.ok x ((List.mem_filter.1 hx).1), fun x hx => h.g x ((List.mem_filter.1 hx).1)⟩
theorem without_inv {B : List EnV} (h : BInv B) (K : Nat) : BInv (B.take K ++ B.drop (K + 1)) :=
  ⟨without_srt h.s K, by have := h.n; simp only [List.length_append, List.length_take, List.length_drop]; omega, fun x hx => h.ok x (mem_without hx), fun x hx => h.g x (mem_without hx)⟩
theorem putE_inv {B : List EnV} {e : EnV} (h : BInv B) (hno : hasE B (kE e) = false) (h64 : B.length < 64) (ho : okE e) (hg : GE e) : BInv (putE B e) :=
  ⟨putE_srt h.s hno, by rw [putE_len]; omega, fun x hx => (mem_putE.1 hx).elim (fun h => h ▸ ho) (h.ok x), fun x hx => (mem_putE.1 hx).elim (fun h => h ▸ hg) (h.g x)⟩
theorem keep_srt {B : List EnV} (h : BInv B) : ∀ x ∈ B, nb x := fun x hx => okE_nb (h.ok x hx)
open Classical in
theorem holdPlays_call (l : List PlO) (v0 : List Vc.Ve) (hl : ∀ o ∈ l, GE o.e ∧ wfD o.h ∧ o.h.length * 8 ≤ 140737488355328) (hll : l.length ≤ 9223372036854775807) (hv0 : wfD v0) (hv8 : v0.length * 8 ≤ 140737488355328) :
    SCall Try.prog 5 [.tr l.length (encs plC l), .tr v0.length (encs Vc.veC v0)] (.v (.bool true)) [.tr l.length (encs plC l), .tr v0.length (encs Vc.veC v0)] := by
  by_cases h90 : l.length ≤ 90
  rotate_left
  · refine SCall.of_body' (TT := TT) (fun _ => false) [false, false] ttok Try.func5 rfl (Nat.le_of_ble_eq_true rfl) rfl fun fx hfx => WK.top ?_
    simp only [impl, imp, argT, List.append_nil, List.map_nil, List.nil_append, show Try.f5.ntmps = 166 from rfl, Nat.zero_add, Nat.reduceAdd]
    repeat' (first | refine WK.seq ?_ | refine WK.reg ?_ | refine IL.nil ?_ | refine WK.skip ?_ | refine WK.block ?_ | refine WK.exit_here ?_ | refine WK.e1 ?_ | refine WK.e2 ?_ | refine WK.drawnS (id := 26) mixed [] [27] [0, 0, 0, 0, 0, 0, 0, 0, 0, 0, 0, 0, 0, 0, 0, 0, 0, 0, 0, 0, 0, 0, 0, 0, 0, 0, 0, 0, 1, 1, 1] [0, 0, 0, 0, 0, 0, 0, 0, 0, 0, 0, 0, 0, 0, 0, 0, 0, 0, 0, 0, 0, 0, 0, 0, 0, 0, 0, 0, 1, 1, 1] (by decide +kernel) ?_ | refine DW.nil ?_ | (with_reducible refine IL.wr ?_ ?_; focus exact cW) | (with_reducible refine DW.wr ?_ ?_; focus exact cW) | refine IL.sg ttok ?_ | refine IL.nn ?_ | refine DW.re ttok ?_ | refine DW.rm ttok ?_ | refine DW.nn ?_ | refine DW.nb ?_ | refine IL.cS ttok ent6 [] true ?_ (hS := by exact anchor11) | refine IL.cS ttok ent7 [.bor] true ?_ (hS := by first | exact hri | exact hri2) | refine IL.cS ttok ent8 [.bor] true ?_ (hS := by exact hsm) | refine IL.cS ttok ent9 [.own, .bor] false ?_ (hS := by exact hpu) | refine IL.cS ttok ent10 [.bor] false ?_ (hS := by exact hvs) | refine IL.cS ttok ent11 [.own, .bor] false ?_ (hS := by exact hta) | refine IL.cS ttok ent12 [.bor] false ?_ (hS := by exact hes) | refine IL.cS ttok ent22 [.own, .bor] false ?_ (hS := by exact hdr) | refine IL.cS ttok ent24 [.bor, .bor] true ?_ (hS := by exact hha) | refine IL.cS ttok ent25 [.bor, .bor] false ?_ (hS := by exact hp11) | refine IL.cS ttok ent26 [.bor, .bor] true ?_ (hS := by exact hr11) | refine DW.cS ttok ent27 [.bor, .bor] true ?_ (hS := by exact hse) | refine IL.cS ttok ent28 [.bor, .bor] false ?_ (hS := by exact hw11) | refine IL.cS ttok ent29 [.bor, .bor] false ?_ (hS := by exact hd11) | refine IL.cS ttok ent30 [.own, .bor, .bor] false ?_ (hS := by exact his) | ((first | ((first | refine IL.ag (fun h => ?_) (fun h => ?_) | refine DW.ag (fun h => ?_) (fun h => ?_) | refine IL.ap (fun h => ?_) (fun h => ?_) | refine DW.ap (fun h => ?_) (fun h => ?_)); (fail_if_success (focus (simp only [reduceCtorEq] at h)))) | refine WK.cn (fun h => ?_) (fun h => ?_)); all_goals first | (simp only [reduceCtorEq] at h; done) | (simp only [hsA, hsD, hsE, ne_eq] at h; first | done | (exfalso; omega; done) | skip) | skip))
    all_goals try ((first | refine WK.ret ⟨.inr rfl, ?_⟩ | refine ⟨.inl rfl, ?_⟩ | refine ⟨.inl trivial, ?_⟩); refine Fin.o ?_ ?_ (h1 := by first | rfl | (simp only [go_sem, show Try.f5.results.toList = [.tmp 4] from rfl, reduceIte] <;> rfl)); rotate_left 1; (focus (first | rfl | skip)); all_goals try with_reducible rfl)
    all_goals skip
  have hri := rightS_call v0 (fun x hx => (hv0 x hx).1) hv8
  by_cases hR : v0.length ≤ 100 ∧ Vc.rightB v0 = true
  rotate_left
  · rw [show (decide (v0.length ≤ 100) && Vc.rightB v0) = false from by
      rw [Bool.eq_false_iff]; intro h; rw [Bool.and_eq_true, decide_eq_true_eq] at h; exact hR h] at hri
    refine SCall.of_body' (TT := TT) (fun _ => false) [false, false] ttok Try.func5 rfl (Nat.le_of_ble_eq_true rfl) rfl fun fx hfx => WK.top ?_
    simp only [impl, imp, argT, List.append_nil, List.map_nil, List.nil_append, show Try.f5.ntmps = 166 from rfl, Nat.zero_add, Nat.reduceAdd]
    repeat' (first | refine WK.seq ?_ | refine WK.reg ?_ | refine IL.nil ?_ | refine WK.skip ?_ | refine WK.block ?_ | refine WK.exit_here ?_ | refine WK.e1 ?_ | refine WK.e2 ?_ | refine WK.drawnS (id := 26) mixed [] [27] [0, 0, 0, 0, 0, 0, 0, 0, 0, 0, 0, 0, 0, 0, 0, 0, 0, 0, 0, 0, 0, 0, 0, 0, 0, 0, 0, 0, 1, 1, 1] [0, 0, 0, 0, 0, 0, 0, 0, 0, 0, 0, 0, 0, 0, 0, 0, 0, 0, 0, 0, 0, 0, 0, 0, 0, 0, 0, 0, 1, 1, 1] (by decide +kernel) ?_ | refine DW.nil ?_ | (with_reducible refine IL.wr ?_ ?_; focus exact cW) | (with_reducible refine DW.wr ?_ ?_; focus exact cW) | refine IL.sg ttok ?_ | refine IL.nn ?_ | refine DW.re ttok ?_ | refine DW.rm ttok ?_ | refine DW.nn ?_ | refine DW.nb ?_ | refine IL.cS ttok ent6 [] true ?_ (hS := by exact anchor11) | refine IL.cS ttok ent7 [.bor] true ?_ (hS := by first | exact hri | exact hri2) | refine IL.cS ttok ent8 [.bor] true ?_ (hS := by exact hsm) | refine IL.cS ttok ent9 [.own, .bor] false ?_ (hS := by exact hpu) | refine IL.cS ttok ent10 [.bor] false ?_ (hS := by exact hvs) | refine IL.cS ttok ent11 [.own, .bor] false ?_ (hS := by exact hta) | refine IL.cS ttok ent12 [.bor] false ?_ (hS := by exact hes) | refine IL.cS ttok ent22 [.own, .bor] false ?_ (hS := by exact hdr) | refine IL.cS ttok ent24 [.bor, .bor] true ?_ (hS := by exact hha) | refine IL.cS ttok ent25 [.bor, .bor] false ?_ (hS := by exact hp11) | refine IL.cS ttok ent26 [.bor, .bor] true ?_ (hS := by exact hr11) | refine DW.cS ttok ent27 [.bor, .bor] true ?_ (hS := by exact hse) | refine IL.cS ttok ent28 [.bor, .bor] false ?_ (hS := by exact hw11) | refine IL.cS ttok ent29 [.bor, .bor] false ?_ (hS := by exact hd11) | refine IL.cS ttok ent30 [.own, .bor, .bor] false ?_ (hS := by exact his) | ((first | ((first | refine IL.ag (fun h => ?_) (fun h => ?_) | refine DW.ag (fun h => ?_) (fun h => ?_) | refine IL.ap (fun h => ?_) (fun h => ?_) | refine DW.ap (fun h => ?_) (fun h => ?_)); (fail_if_success (focus (simp only [reduceCtorEq] at h)))) | refine WK.cn (fun h => ?_) (fun h => ?_)); all_goals first | (simp only [reduceCtorEq] at h; done) | (simp only [hsA, hsD, hsE, ne_eq] at h; first | done | (exfalso; omega; done) | skip) | skip))
    all_goals try ((first | refine WK.ret ⟨.inr rfl, ?_⟩ | refine ⟨.inl rfl, ?_⟩ | refine ⟨.inl trivial, ?_⟩); refine Fin.o ?_ ?_ (h1 := by first | rfl | (simp only [go_sem, show Try.f5.results.toList = [.tmp 4] from rfl, reduceIte] <;> rfl)); rotate_left 1; (focus (first | rfl | skip)); all_goals try with_reducible rfl)
    all_goals skip
  obtain ⟨hR1, hR2⟩ := hR
  rw [decide_eq_true hR1, hR2] at hri
  simp only [Bool.and_self] at hri
  have hv0v : Vc.Vec v0 := Vc.Vec.of hR2 fun x hx => (hv0 x hx).1
  have hvs := SCall.frz (vecS_call v0 hv8) rfl
  simp only [frzR] at hvs
  clear hR2
  refine SCall.of_body' (TT := TT) (fun _ => false) [false, false] ttok Try.func5 rfl (Nat.le_of_ble_eq_true rfl) rfl fun fx hfx => WK.top ?_
  simp only [impl, imp, argT, List.append_nil, List.map_nil, List.nil_append, show Try.f5.ntmps = 166 from rfl, Nat.zero_add, Nat.reduceAdd]
  repeat' (first | refine WK.seq ?_ | refine WK.reg ?_ | refine IL.nil ?_ | refine WK.skip ?_ | refine WK.block ?_ | refine WK.exit_here ?_ | refine WK.e1 ?_ | refine WK.e2 ?_ | refine WK.drawnS (id := 26) mixed [] [27] [0, 0, 0, 0, 0, 0, 0, 0, 0, 0, 0, 0, 0, 0, 0, 0, 0, 0, 0, 0, 0, 0, 0, 0, 0, 0, 0, 0, 1, 1, 1] [0, 0, 0, 0, 0, 0, 0, 0, 0, 0, 0, 0, 0, 0, 0, 0, 0, 0, 0, 0, 0, 0, 0, 0, 0, 0, 0, 0, 1, 1, 1] (by decide +kernel) ?_ | refine DW.nil ?_ | (with_reducible refine IL.wr ?_ ?_; focus exact cW) | (with_reducible refine DW.wr ?_ ?_; focus exact cW) | refine IL.sg ttok ?_ | refine IL.nn ?_ | refine DW.re ttok ?_ | refine DW.rm ttok ?_ | refine DW.nn ?_ | refine DW.nb ?_ | refine IL.cS ttok ent6 [] true ?_ (hS := by exact anchor11) | refine IL.cS ttok ent7 [.bor] true ?_ (hS := by first | exact hri | exact hri2) | refine IL.cS ttok ent8 [.bor] true ?_ (hS := by exact hsm) | refine IL.cS ttok ent9 [.own, .bor] false ?_ (hS := by exact hpu) | refine IL.cS ttok ent10 [.bor] false ?_ (hS := by exact hvs) | refine IL.cS ttok ent11 [.own, .bor] false ?_ (hS := by exact hta) | refine IL.cS ttok ent12 [.bor] false ?_ (hS := by exact hes) | refine IL.cS ttok ent22 [.own, .bor] false ?_ (hS := by exact hdr) | refine IL.cS ttok ent24 [.bor, .bor] true ?_ (hS := by exact hha) | refine IL.cS ttok ent25 [.bor, .bor] false ?_ (hS := by exact hp11) | refine IL.cS ttok ent26 [.bor, .bor] true ?_ (hS := by exact hr11) | refine DW.cS ttok ent27 [.bor, .bor] true ?_ (hS := by exact hse) | refine IL.cS ttok ent28 [.bor, .bor] false ?_ (hS := by exact hw11) | refine IL.cS ttok ent29 [.bor, .bor] false ?_ (hS := by exact hd11) | refine IL.cS ttok ent30 [.own, .bor, .bor] false ?_ (hS := by exact his) | ((first | ((first | refine IL.ag (fun h => ?_) (fun h => ?_) | refine DW.ag (fun h => ?_) (fun h => ?_) | refine IL.ap (fun h => ?_) (fun h => ?_) | refine DW.ap (fun h => ?_) (fun h => ?_)); (fail_if_success (focus (simp only [reduceCtorEq] at h)))) | refine WK.cn (fun h => ?_) (fun h => ?_)); all_goals first | (simp only [reduceCtorEq] at h; done) | (simp only [hsA, hsD, hsE, ne_eq] at h; first | done | (exfalso; omega; done) | skip) | skip))
  refine WK.freeze (σ' := ?_) ttok 2 rfl rfl rfl ?_ ?_; rotate_left 1
  · simp only [go_sem, List.set_cons_zero, List.set_cons_succ]; rfl
  refine WK.whileS (α := Nat × List EnV) (fun x => l.length - x.1) (fun x => x.1 ≤ l.length ∧ BInv x.2) (fun x => ⟨166, [(1, .tr v0.length (encs Vc.veC v0)), (5, .ptr 0 0 0), (6, .tr x.2.length (encs envC x.2)), (29, .tr l.length (encs plC l)), (30, .v (.int .i64 l.length)), (31, .v (.int .i64 (x.1 : Int)))], [some ⟨false, 0, 1, false, [.sl 1 0 0 x.2.length], 0, false⟩, some ⟨true, 36, x.2.length, false, encs envC x.2, 0, false⟩]⟩) (0, []) ⟨⟨Nat.zero_le _, List.Pairwise.nil, by simp, by simp, by simp⟩, ?_⟩ ?_
  · (refine Weak.renS [1, 0] hfx rfl ?_ ?_ rfl <;> (simp only [go_sem, reduceIte, exists_eq_left', exists_eq_left, Blk.mk.injEq, encs_nil, List.length_nil] <;> (try and_intros) <;> first | rfl | omega))
  rintro ⟨k, B⟩ ⟨hkl, hB⟩
  simp only at hkl hB ⊢
  by_cases hk : k < l.length
  rotate_left
  · repeat' (first | refine WK.seq ?_ | refine WK.reg ?_ | refine IL.nil ?_ | refine WK.skip ?_ | refine WK.block ?_ | refine WK.exit_here ?_ | refine WK.e1 ?_ | refine WK.e2 ?_ | refine WK.drawnS (id := 26) mixed [] [27] [0, 0, 0, 0, 0, 0, 0, 0, 0, 0, 0, 0, 0, 0, 0, 0, 0, 0, 0, 0, 0, 0, 0, 0, 0, 0, 0, 0, 1, 1, 1] [0, 0, 0, 0, 0, 0, 0, 0, 0, 0, 0, 0, 0, 0, 0, 0, 0, 0, 0, 0, 0, 0, 0, 0, 0, 0, 0, 0, 1, 1, 1] (by decide +kernel) ?_ | refine DW.nil ?_ | (with_reducible refine IL.wr ?_ ?_; focus exact cW) | (with_reducible refine DW.wr ?_ ?_; focus exact cW) | refine IL.sg ttok ?_ | refine IL.nn ?_ | refine DW.re ttok ?_ | refine DW.rm ttok ?_ | refine DW.nn ?_ | refine DW.nb ?_ | refine IL.cS ttok ent6 [] true ?_ (hS := by exact anchor11) | refine IL.cS ttok ent7 [.bor] true ?_ (hS := by first | exact hri | exact hri2) | refine IL.cS ttok ent8 [.bor] true ?_ (hS := by exact hsm) | refine IL.cS ttok ent9 [.own, .bor] false ?_ (hS := by exact hpu) | refine IL.cS ttok ent10 [.bor] false ?_ (hS := by exact hvs) | refine IL.cS ttok ent11 [.own, .bor] false ?_ (hS := by exact hta) | refine IL.cS ttok ent12 [.bor] false ?_ (hS := by exact hes) | refine IL.cS ttok ent22 [.own, .bor] false ?_ (hS := by exact hdr) | refine IL.cS ttok ent24 [.bor, .bor] true ?_ (hS := by exact hha) | refine IL.cS ttok ent25 [.bor, .bor] false ?_ (hS := by exact hp11) | refine IL.cS ttok ent26 [.bor, .bor] true ?_ (hS := by exact hr11) | refine DW.cS ttok ent27 [.bor, .bor] true ?_ (hS := by exact hse) | refine IL.cS ttok ent28 [.bor, .bor] false ?_ (hS := by exact hw11) | refine IL.cS ttok ent29 [.bor, .bor] false ?_ (hS := by exact hd11) | refine IL.cS ttok ent30 [.own, .bor, .bor] false ?_ (hS := by exact his) | ((first | ((first | refine IL.ag (fun h => ?_) (fun h => ?_) | refine DW.ag (fun h => ?_) (fun h => ?_) | refine IL.ap (fun h => ?_) (fun h => ?_) | refine DW.ap (fun h => ?_) (fun h => ?_)); (fail_if_success (focus (simp only [reduceCtorEq] at h)))) | refine WK.cn (fun h => ?_) (fun h => ?_)); all_goals first | (simp only [reduceCtorEq] at h; done) | (simp only [hsA, hsD, hsE, ne_eq] at h; first | done | (exfalso; omega; done) | skip) | skip))
    all_goals try ((first | refine WK.ret ⟨.inr rfl, ?_⟩ | refine ⟨.inl rfl, ?_⟩ | refine ⟨.inl trivial, ?_⟩); refine Fin.o ?_ ?_ (h1 := by first | rfl | (simp only [go_sem, show Try.f5.results.toList = [.tmp 4] from rfl, reduceIte] <;> rfl)); rotate_left 1; (focus (first | rfl | skip)); all_goals try with_reducible rfl)
    all_goals skip
  have hx : l[k]? = some l[k] := List.getElem?_eq_getElem hk
  have hle : k * 8 + 8 ≤ l.length * 8 := by omega
  have hat : ((encs plC l).drop (k * 8)).take 8 = plC l[k] := encs_at plC_length hx
  have hne : encs plC l ≠ [] := encs_ne plC_length (by decide) hx
  obtain ⟨hg, hw, h8⟩ := hl _ (List.getElem_mem hk)
  have hbn := hB.n
  rw [plC_eq] at hat
  clear hx hvs hl
  generalize l[k] = o at *
  obtain ⟨K, e, v⟩ := o
  simp only at hat hg hw h8
  have hsm := smallS_call e.d e.r e.s e.c e.u e.ops hg.d8 hg.d hg.o72 hg.s16 hg.t hg.o
  have hri2 := rightS_call v (fun x hx => (hw x hx).1) h8
  by_cases hS : K = 1 ∧ ¬ smallE e.d e.r e.s e.c e.u e.ops
  · obtain ⟨rfl, hS⟩ := hS
    rw [decide_eq_false hS] at hsm
    have FX := And.intro hat hle
    repeat' (first | refine WK.seq ?_ | refine WK.reg ?_ | refine IL.nil ?_ | refine WK.skip ?_ | refine WK.block ?_ | refine WK.exit_here ?_ | refine WK.e1 ?_ | refine WK.e2 ?_ | refine WK.drawnS (id := 26) mixed [] [27] [0, 0, 0, 0, 0, 0, 0, 0, 0, 0, 0, 0, 0, 0, 0, 0, 0, 0, 0, 0, 0, 0, 0, 0, 0, 0, 0, 0, 1, 1, 1] [0, 0, 0, 0, 0, 0, 0, 0, 0, 0, 0, 0, 0, 0, 0, 0, 0, 0, 0, 0, 0, 0, 0, 0, 0, 0, 0, 0, 1, 1, 1] (by decide +kernel) ?_ | refine DW.nil ?_ | (with_reducible refine IL.wr ?_ ?_; focus exact cW) | (with_reducible refine DW.wr ?_ ?_; focus exact cW) | refine IL.sgF ttok ?_ | refine IL.nn ?_ | refine DW.reF ttok ?_ | refine DW.rmF ttok ?_ | refine DW.nn ?_ | refine DW.nb ?_ | refine IL.cSF ttok ent6 [] true ?_ (hS := by exact anchor11) | refine IL.cSF ttok ent7 [.bor] true ?_ (hS := by first | exact hri | exact hri2) | refine IL.cSF ttok ent8 [.bor] true ?_ (hS := by exact hsm) | refine IL.cSF ttok ent9 [.own, .bor] false ?_ (hS := by exact hpu) | refine IL.cSF ttok ent10 [.bor] false ?_ (hS := by exact hvs) | refine IL.cSF ttok ent11 [.own, .bor] false ?_ (hS := by exact hta) | refine IL.cSF ttok ent12 [.bor] false ?_ (hS := by exact hes) | refine IL.cSF ttok ent22 [.own, .bor] false ?_ (hS := by exact hdr) | refine IL.cSF ttok ent24 [.bor, .bor] true ?_ (hS := by exact hha) | refine IL.cSF ttok ent25 [.bor, .bor] false ?_ (hS := by exact hp11) | refine IL.cSF ttok ent26 [.bor, .bor] true ?_ (hS := by exact hr11) | refine DW.cSF ttok ent27 [.bor, .bor] true ?_ (hS := by exact hse) | refine IL.cSF ttok ent28 [.bor, .bor] false ?_ (hS := by exact hw11) | refine IL.cSF ttok ent29 [.bor, .bor] false ?_ (hS := by exact hd11) | refine IL.cSF ttok ent30 [.own, .bor, .bor] false ?_ (hS := by exact his) | ((first | ((first | refine IL.ag (fun h => ?_) (fun h => ?_) | refine DW.ag (fun h => ?_) (fun h => ?_) | refine IL.ap (fun h => ?_) (fun h => ?_) | refine DW.ap (fun h => ?_) (fun h => ?_)); (fail_if_success (focus (simp only [reduceCtorEq] at h)))) | refine WK.cn (fun h => ?_) (fun h => ?_)); all_goals first | (simp only [reduceCtorEq] at h; done) | (simp only [hsA, hsD, hsE, ne_eq] at h; first | done | (exfalso; omega; done) | skip) | skip))
    all_goals try ((first | refine WK.ret ⟨.inr rfl, ?_⟩ | refine ⟨.inl rfl, ?_⟩ | refine ⟨.inl trivial, ?_⟩); refine Fin.o ?_ ?_ (h1 := by first | rfl | (simp only [go_sem, show Try.f5.results.toList = [.tmp 4] from rfl, reduceIte] <;> rfl)); rotate_left 1; (focus (first | rfl | skip)); all_goals try with_reducible rfl)
    all_goals skip
  have hS1 : K = 1 → smallE e.d e.r e.s e.c e.u e.ops := fun h => Classical.byContradiction fun h2 => hS ⟨h, h2⟩
  by_cases hV : v.length ≤ 100 ∧ Vc.rightB v = true
  rotate_left
  · rw [show (decide (v.length ≤ 100) && Vc.rightB v) = false from by
      rw [Bool.eq_false_iff]; intro h; rw [Bool.and_eq_true, decide_eq_true_eq] at h; exact hV h] at hri2
    by_cases h1 : K = 1
    · subst h1
      rw [decide_eq_true (hS1 rfl)] at hsm
      have FX := And.intro hat hle
      repeat' (first | refine WK.seq ?_ | refine WK.reg ?_ | refine IL.nil ?_ | refine WK.skip ?_ | refine WK.block ?_ | refine WK.exit_here ?_ | refine WK.e1 ?_ | refine WK.e2 ?_ | refine WK.drawnS (id := 26) mixed [] [27] [0, 0, 0, 0, 0, 0, 0, 0, 0, 0, 0, 0, 0, 0, 0, 0, 0, 0, 0, 0, 0, 0, 0, 0, 0, 0, 0, 0, 1, 1, 1] [0, 0, 0, 0, 0, 0, 0, 0, 0, 0, 0, 0, 0, 0, 0, 0, 0, 0, 0, 0, 0, 0, 0, 0, 0, 0, 0, 0, 1, 1, 1] (by decide +kernel) ?_ | refine DW.nil ?_ | (with_reducible refine IL.wr ?_ ?_; focus exact cW) | (with_reducible refine DW.wr ?_ ?_; focus exact cW) | refine IL.sgF ttok ?_ | refine IL.nn ?_ | refine DW.reF ttok ?_ | refine DW.rmF ttok ?_ | refine DW.nn ?_ | refine DW.nb ?_ | refine IL.cSF ttok ent6 [] true ?_ (hS := by exact anchor11) | refine IL.cSF ttok ent7 [.bor] true ?_ (hS := by first | exact hri | exact hri2) | refine IL.cSF ttok ent8 [.bor] true ?_ (hS := by exact hsm) | refine IL.cSF ttok ent9 [.own, .bor] false ?_ (hS := by exact hpu) | refine IL.cSF ttok ent10 [.bor] false ?_ (hS := by exact hvs) | refine IL.cSF ttok ent11 [.own, .bor] false ?_ (hS := by exact hta) | refine IL.cSF ttok ent12 [.bor] false ?_ (hS := by exact hes) | refine IL.cSF ttok ent22 [.own, .bor] false ?_ (hS := by exact hdr) | refine IL.cSF ttok ent24 [.bor, .bor] true ?_ (hS := by exact hha) | refine IL.cSF ttok ent25 [.bor, .bor] false ?_ (hS := by exact hp11) | refine IL.cSF ttok ent26 [.bor, .bor] true ?_ (hS := by exact hr11) | refine DW.cSF ttok ent27 [.bor, .bor] true ?_ (hS := by exact hse) | refine IL.cSF ttok ent28 [.bor, .bor] false ?_ (hS := by exact hw11) | refine IL.cSF ttok ent29 [.bor, .bor] false ?_ (hS := by exact hd11) | refine IL.cSF ttok ent30 [.own, .bor, .bor] false ?_ (hS := by exact his) | ((first | ((first | refine IL.ag (fun h => ?_) (fun h => ?_) | refine DW.ag (fun h => ?_) (fun h => ?_) | refine IL.ap (fun h => ?_) (fun h => ?_) | refine DW.ap (fun h => ?_) (fun h => ?_)); (fail_if_success (focus (simp only [reduceCtorEq] at h)))) | refine WK.cn (fun h => ?_) (fun h => ?_)); all_goals first | (simp only [reduceCtorEq] at h; done) | (simp only [hsA, hsD, hsE, ne_eq] at h; first | done | (exfalso; omega; done) | skip) | skip))
      all_goals try ((first | refine WK.ret ⟨.inr rfl, ?_⟩ | refine ⟨.inl rfl, ?_⟩ | refine ⟨.inl trivial, ?_⟩); refine Fin.o ?_ ?_ (h1 := by first | rfl | (simp only [go_sem, show Try.f5.results.toList = [.tmp 4] from rfl, reduceIte] <;> rfl)); rotate_left 1; (focus (first | rfl | skip)); all_goals try with_reducible rfl)
      all_goals skip
    · have hK1 : (K == 1) = false := beq_eq_false_iff_ne.2 h1
      have FX := And.intro hat (And.intro hle hK1)
      repeat' (first | refine WK.seq ?_ | refine WK.reg ?_ | refine IL.nil ?_ | refine WK.skip ?_ | refine WK.block ?_ | refine WK.exit_here ?_ | refine WK.e1 ?_ | refine WK.e2 ?_ | refine WK.drawnS (id := 26) mixed [] [27] [0, 0, 0, 0, 0, 0, 0, 0, 0, 0, 0, 0, 0, 0, 0, 0, 0, 0, 0, 0, 0, 0, 0, 0, 0, 0, 0, 0, 1, 1, 1] [0, 0, 0, 0, 0, 0, 0, 0, 0, 0, 0, 0, 0, 0, 0, 0, 0, 0, 0, 0, 0, 0, 0, 0, 0, 0, 0, 0, 1, 1, 1] (by decide +kernel) ?_ | refine DW.nil ?_ | (with_reducible refine IL.wr ?_ ?_; focus exact cW) | (with_reducible refine DW.wr ?_ ?_; focus exact cW) | refine IL.sgF ttok ?_ | refine IL.nn ?_ | refine DW.reF ttok ?_ | refine DW.rmF ttok ?_ | refine DW.nn ?_ | refine DW.nb ?_ | refine IL.cSF ttok ent6 [] true ?_ (hS := by exact anchor11) | refine IL.cSF ttok ent7 [.bor] true ?_ (hS := by first | exact hri | exact hri2) | refine IL.cSF ttok ent8 [.bor] true ?_ (hS := by exact hsm) | refine IL.cSF ttok ent9 [.own, .bor] false ?_ (hS := by exact hpu) | refine IL.cSF ttok ent10 [.bor] false ?_ (hS := by exact hvs) | refine IL.cSF ttok ent11 [.own, .bor] false ?_ (hS := by exact hta) | refine IL.cSF ttok ent12 [.bor] false ?_ (hS := by exact hes) | refine IL.cSF ttok ent22 [.own, .bor] false ?_ (hS := by exact hdr) | refine IL.cSF ttok ent24 [.bor, .bor] true ?_ (hS := by exact hha) | refine IL.cSF ttok ent25 [.bor, .bor] false ?_ (hS := by exact hp11) | refine IL.cSF ttok ent26 [.bor, .bor] true ?_ (hS := by exact hr11) | refine DW.cSF ttok ent27 [.bor, .bor] true ?_ (hS := by exact hse) | refine IL.cSF ttok ent28 [.bor, .bor] false ?_ (hS := by exact hw11) | refine IL.cSF ttok ent29 [.bor, .bor] false ?_ (hS := by exact hd11) | refine IL.cSF ttok ent30 [.own, .bor, .bor] false ?_ (hS := by exact his) | ((first | ((first | refine IL.ag (fun h => ?_) (fun h => ?_) | refine DW.ag (fun h => ?_) (fun h => ?_) | refine IL.ap (fun h => ?_) (fun h => ?_) | refine DW.ap (fun h => ?_) (fun h => ?_)); (fail_if_success (focus (simp only [reduceCtorEq] at h)))) | refine WK.cn (fun h => ?_) (fun h => ?_)); all_goals first | (simp only [reduceCtorEq] at h; done) | (simp only [hsA, hsD, hsE, ne_eq] at h; first | done | (exfalso; omega; done) | skip) | skip))
      all_goals try ((first | refine WK.ret ⟨.inr rfl, ?_⟩ | refine ⟨.inl rfl, ?_⟩ | refine ⟨.inl trivial, ?_⟩); refine Fin.o ?_ ?_ (h1 := by first | rfl | (simp only [go_sem, show Try.f5.results.toList = [.tmp 4] from rfl, reduceIte] <;> rfl)); rotate_left 1; (focus (first | rfl | skip)); all_goals try with_reducible rfl)
      all_goals skip
  obtain ⟨hV1, hV2⟩ := hV
  rw [decide_eq_true hV1, hV2] at hri2
  simp only [Bool.and_self] at hri2
  have hvv : Vc.Vec v := Vc.Vec.of hV2 fun x hx => (hw x hx).1
  have hvs := SCall.frz (vecS_call v h8) rfl
  simp only [frzR] at hvs
  have hnx : ∀ B2, BInv B2 → SCall Try.prog 30 [bufO B2, .tr B2.length (encs envC B2), .tr v0.length (encs Vc.veC v0)] (.v (.bool true)) [bufO B2, .tr B2.length (encs envC B2), .tr v0.length (encs Vc.veC v0)] := fun B2 h2 => is_call B2 v0 hv0v (by omega) h2.ok (by have := h2.n; omega)
  by_cases h1 : K = 1
  · subst h1
    have hSe := hS1 rfl
    rw [decide_eq_true hSe] at hsm
    have hoe := smallE_ok hg.d hg.n.1 hSe
    have hes := envS_frz e.d e.r e.s e.c e.u e.ops hg.d8 hg.o72 hg.s16
    have hnb := keep_srt hB
    have hha := has11_call B e hnb hg.n (by omega) (hasE B (kE e)) (hasE_iff hB.s (kE e))
    rw [envC_eq] at hha
    by_cases hh : hasE B (kE e) = true
    · have hpu := put_has B e hB.s hnb hg.n (by omega) hh
      have his := hnx B hB
      rw [hh] at hha
      rw [envC_eq] at hpu
      have FX := And.intro hat hle
      repeat' (first | refine WK.seq ?_ | refine WK.reg ?_ | refine IL.nil ?_ | refine WK.skip ?_ | refine WK.block ?_ | refine WK.exit_here ?_ | refine WK.e1 ?_ | refine WK.e2 ?_ | refine WK.drawnS (id := 26) mixed [] [27] [0, 0, 0, 0, 0, 0, 0, 0, 0, 0, 0, 0, 0, 0, 0, 0, 0, 0, 0, 0, 0, 0, 0, 0, 0, 0, 0, 0, 1, 1, 1] [0, 0, 0, 0, 0, 0, 0, 0, 0, 0, 0, 0, 0, 0, 0, 0, 0, 0, 0, 0, 0, 0, 0, 0, 0, 0, 0, 0, 1, 1, 1] (by decide +kernel) ?_ | refine DW.nil ?_ | (with_reducible refine IL.wr ?_ ?_; focus exact cW) | (with_reducible refine DW.wr ?_ ?_; focus exact cW) | refine IL.sgF ttok ?_ | refine IL.nn ?_ | refine DW.reF ttok ?_ | refine DW.rmF ttok ?_ | refine DW.nn ?_ | refine DW.nb ?_ | refine IL.cSF ttok ent6 [] true ?_ (hS := by exact anchor11) | refine IL.cSF ttok ent7 [.bor] true ?_ (hS := by first | exact hri | exact hri2) | refine IL.cSF ttok ent8 [.bor] true ?_ (hS := by exact hsm) | refine IL.cSF ttok ent9 [.own, .bor] false ?_ (hS := by exact hpu) | refine IL.cSF ttok ent10 [.bor] false ?_ (hS := by exact hvs) | refine IL.cSF ttok ent11 [.own, .bor] false ?_ (hS := by exact hta) | refine IL.cSF ttok ent12 [.bor] false ?_ (hS := by exact hes) | refine IL.cSF ttok ent22 [.own, .bor] false ?_ (hS := by exact hdr) | refine IL.cSF ttok ent24 [.bor, .bor] true ?_ (hS := by exact hha) | refine IL.cSF ttok ent25 [.bor, .bor] false ?_ (hS := by exact hp11) | refine IL.cSF ttok ent26 [.bor, .bor] true ?_ (hS := by exact hr11) | refine DW.cSF ttok ent27 [.bor, .bor] true ?_ (hS := by exact hse) | refine IL.cSF ttok ent28 [.bor, .bor] false ?_ (hS := by exact hw11) | refine IL.cSF ttok ent29 [.bor, .bor] false ?_ (hS := by exact hd11) | refine IL.cSF ttok ent30 [.own, .bor, .bor] false ?_ (hS := by exact his) | ((first | ((first | refine IL.ag (fun h => ?_) (fun h => ?_) | refine DW.ag (fun h => ?_) (fun h => ?_) | refine IL.ap (fun h => ?_) (fun h => ?_) | refine DW.ap (fun h => ?_) (fun h => ?_)); (fail_if_success (focus (simp only [reduceCtorEq] at h)))) | refine WK.cn (fun h => ?_) (fun h => ?_)); all_goals first | (simp only [reduceCtorEq] at h; done) | (simp only [hsA, hsD, hsE, ne_eq] at h; first | done | (exfalso; omega; done) | skip) | skip))
      all_goals try ((first | refine WK.ret ⟨.inr rfl, ?_⟩ | refine ⟨.inl rfl, ?_⟩ | refine ⟨.inl trivial, ?_⟩); refine Fin.o ?_ ?_ (h1 := by first | rfl | (simp only [go_sem, show Try.f5.results.toList = [.tmp 4] from rfl, reduceIte] <;> rfl)); rotate_left 1; (focus (first | rfl | skip)); all_goals try with_reducible rfl)
      all_goals first | refine ⟨(k + 1, B), by simp only; omega, ⟨by simp only; omega, hB⟩, ?_⟩ | (exfalso; rename_i q; revert q; first | decide | (simp; omega))
      (refine Weak.renS [0, 10] hfx rfl ?_ ?_ rfl <;> (simp only [go_sem, reduceIte, exists_eq_left', exists_eq_left, Blk.mk.injEq] <;> (try and_intros) <;> first | rfl | omega))
    have hh := Bool.eq_false_iff.2 hh
    rw [hh] at hha
    by_cases h64 : 64 ≤ B.length
    · have hpu := put_full B e hB.s hnb hg.n (by omega) hh h64
      have his := hnx B hB
      rw [envC_eq] at hpu
      have FX := And.intro hat hle
      repeat' (first | refine WK.seq ?_ | refine WK.reg ?_ | refine IL.nil ?_ | refine WK.skip ?_ | refine WK.block ?_ | refine WK.exit_here ?_ | refine WK.e1 ?_ | refine WK.e2 ?_ | refine WK.drawnS (id := 26) mixed [] [27] [0, 0, 0, 0, 0, 0, 0, 0, 0, 0, 0, 0, 0, 0, 0, 0, 0, 0, 0, 0, 0, 0, 0, 0, 0, 0, 0, 0, 1, 1, 1] [0, 0, 0, 0, 0, 0, 0, 0, 0, 0, 0, 0, 0, 0, 0, 0, 0, 0, 0, 0, 0, 0, 0, 0, 0, 0, 0, 0, 1, 1, 1] (by decide +kernel) ?_ | refine DW.nil ?_ | (with_reducible refine IL.wr ?_ ?_; focus exact cW) | (with_reducible refine DW.wr ?_ ?_; focus exact cW) | refine IL.sgF ttok ?_ | refine IL.nn ?_ | refine DW.reF ttok ?_ | refine DW.rmF ttok ?_ | refine DW.nn ?_ | refine DW.nb ?_ | refine IL.cSF ttok ent6 [] true ?_ (hS := by exact anchor11) | refine IL.cSF ttok ent7 [.bor] true ?_ (hS := by first | exact hri | exact hri2) | refine IL.cSF ttok ent8 [.bor] true ?_ (hS := by exact hsm) | refine IL.cSF ttok ent9 [.own, .bor] false ?_ (hS := by exact hpu) | refine IL.cSF ttok ent10 [.bor] false ?_ (hS := by exact hvs) | refine IL.cSF ttok ent11 [.own, .bor] false ?_ (hS := by exact hta) | refine IL.cSF ttok ent12 [.bor] false ?_ (hS := by exact hes) | refine IL.cSF ttok ent22 [.own, .bor] false ?_ (hS := by exact hdr) | refine IL.cSF ttok ent24 [.bor, .bor] true ?_ (hS := by exact hha) | refine IL.cSF ttok ent25 [.bor, .bor] false ?_ (hS := by exact hp11) | refine IL.cSF ttok ent26 [.bor, .bor] true ?_ (hS := by exact hr11) | refine DW.cSF ttok ent27 [.bor, .bor] true ?_ (hS := by exact hse) | refine IL.cSF ttok ent28 [.bor, .bor] false ?_ (hS := by exact hw11) | refine IL.cSF ttok ent29 [.bor, .bor] false ?_ (hS := by exact hd11) | refine IL.cSF ttok ent30 [.own, .bor, .bor] false ?_ (hS := by exact his) | ((first | ((first | refine IL.ag (fun h => ?_) (fun h => ?_) | refine DW.ag (fun h => ?_) (fun h => ?_) | refine IL.ap (fun h => ?_) (fun h => ?_) | refine DW.ap (fun h => ?_) (fun h => ?_)); (fail_if_success (focus (simp only [reduceCtorEq] at h)))) | refine WK.cn (fun h => ?_) (fun h => ?_)); all_goals first | (simp only [reduceCtorEq] at h; done) | (simp only [hsA, hsD, hsE, ne_eq] at h; first | done | (exfalso; omega; done) | skip) | skip))
      all_goals try ((first | refine WK.ret ⟨.inr rfl, ?_⟩ | refine ⟨.inl rfl, ?_⟩ | refine ⟨.inl trivial, ?_⟩); refine Fin.o ?_ ?_ (h1 := by first | rfl | (simp only [go_sem, show Try.f5.results.toList = [.tmp 4] from rfl, reduceIte] <;> rfl)); rotate_left 1; (focus (first | rfl | skip)); all_goals try with_reducible rfl)
      all_goals first | refine ⟨(k + 1, B), by simp only; omega, ⟨by simp only; omega, hB⟩, ?_⟩ | (exfalso; rename_i q; revert q; first | decide | (simp; omega))
      (refine Weak.renS [0, 10] hfx rfl ?_ ?_ rfl <;> (simp only [go_sem, reduceIte, exists_eq_left', exists_eq_left, Blk.mk.injEq] <;> (try and_intros) <;> first | rfl | omega))
    · have hpu := put_ok B e hB.s hnb hg.n (by omega) hh (by omega)
      have hp11 := SCall.frz (put11_call B e hnb hg.n (by omega)) rfl
      rw [putP hB.s fun x hx hk => by
        have := (hasE_iff hB.s (kE e)).2 ⟨x, hx, hk⟩
        rw [hh] at this; cases this] at hp11
      simp only [frzR] at hp11
      have hB2 := putE_inv hB hh (by omega) hoe hg
      have his := hnx _ hB2
      rw [envC_eq] at hpu hp11
      generalize putE B e = B2 at *
      have FX := And.intro hat hle
      repeat' (first | refine WK.seq ?_ | refine WK.reg ?_ | refine IL.nil ?_ | refine WK.skip ?_ | refine WK.block ?_ | refine WK.exit_here ?_ | refine WK.e1 ?_ | refine WK.e2 ?_ | refine WK.drawnS (id := 26) mixed [] [27] [0, 0, 0, 0, 0, 0, 0, 0, 0, 0, 0, 0, 0, 0, 0, 0, 0, 0, 0, 0, 0, 0, 0, 0, 0, 0, 0, 0, 1, 1, 1] [0, 0, 0, 0, 0, 0, 0, 0, 0, 0, 0, 0, 0, 0, 0, 0, 0, 0, 0, 0, 0, 0, 0, 0, 0, 0, 0, 0, 1, 1, 1] (by decide +kernel) ?_ | refine DW.nil ?_ | (with_reducible refine IL.wr ?_ ?_; focus exact cW) | (with_reducible refine DW.wr ?_ ?_; focus exact cW) | refine IL.sgF ttok ?_ | refine IL.nn ?_ | refine DW.reF ttok ?_ | refine DW.rmF ttok ?_ | refine DW.nn ?_ | refine DW.nb ?_ | refine IL.cSF ttok ent6 [] true ?_ (hS := by exact anchor11) | refine IL.cSF ttok ent7 [.bor] true ?_ (hS := by first | exact hri | exact hri2) | refine IL.cSF ttok ent8 [.bor] true ?_ (hS := by exact hsm) | refine IL.cSF ttok ent9 [.own, .bor] false ?_ (hS := by exact hpu) | refine IL.cSF ttok ent10 [.bor] false ?_ (hS := by exact hvs) | refine IL.cSF ttok ent11 [.own, .bor] false ?_ (hS := by exact hta) | refine IL.cSF ttok ent12 [.bor] false ?_ (hS := by exact hes) | refine IL.cSF ttok ent22 [.own, .bor] false ?_ (hS := by exact hdr) | refine IL.cSF ttok ent24 [.bor, .bor] true ?_ (hS := by exact hha) | refine IL.cSF ttok ent25 [.bor, .bor] false ?_ (hS := by exact hp11) | refine IL.cSF ttok ent26 [.bor, .bor] true ?_ (hS := by exact hr11) | refine DW.cSF ttok ent27 [.bor, .bor] true ?_ (hS := by exact hse) | refine IL.cSF ttok ent28 [.bor, .bor] false ?_ (hS := by exact hw11) | refine IL.cSF ttok ent29 [.bor, .bor] false ?_ (hS := by exact hd11) | refine IL.cSF ttok ent30 [.own, .bor, .bor] false ?_ (hS := by exact his) | ((first | ((first | refine IL.ag (fun h => ?_) (fun h => ?_) | refine DW.ag (fun h => ?_) (fun h => ?_) | refine IL.ap (fun h => ?_) (fun h => ?_) | refine DW.ap (fun h => ?_) (fun h => ?_)); (fail_if_success (focus (simp only [reduceCtorEq] at h)))) | refine WK.cn (fun h => ?_) (fun h => ?_)); all_goals first | (simp only [reduceCtorEq] at h; done) | (simp only [hsA, hsD, hsE, ne_eq] at h; first | done | (exfalso; omega; done) | skip) | skip))
      all_goals try ((first | refine WK.ret ⟨.inr rfl, ?_⟩ | refine ⟨.inl rfl, ?_⟩ | refine ⟨.inl trivial, ?_⟩); refine Fin.o ?_ ?_ (h1 := by first | rfl | (simp only [go_sem, show Try.f5.results.toList = [.tmp 4] from rfl, reduceIte] <;> rfl)); rotate_left 1; (focus (first | rfl | skip)); all_goals try with_reducible rfl)
      all_goals first | refine ⟨(k + 1, B2), by simp only; omega, ⟨by simp only; omega, hB2⟩, ?_⟩ | (exfalso; rename_i q; revert q; first | decide | (simp; omega))
      (refine Weak.renS [0, 10] hfx rfl ?_ ?_ rfl <;> (simp only [go_sem, reduceIte, exists_eq_left', exists_eq_left, Blk.mk.injEq] <;> (try and_intros) <;> first | rfl | omega))
  have hK1 : (K == 1) = false := beq_eq_false_iff_ne.2 h1
  by_cases h2 : K = 2
  · subst h2
    have hokB := hB.ok
    rcases rdy_cases v B with hno | ⟨K, x, hK, hre, hno⟩
    · have hta := take_none B v hvv (by omega) hokB (by omega) hno
      have hr11 := ready11_call B v hvv (by omega) hokB (by omega) (-1) (fun _ => rfl) (fun i y hy _ hr => by
        rw [hno y (List.mem_of_getElem? hy)] at hr; cases hr)
      have his := hnx B hB
      have FX := And.intro hat hle
      repeat' (first | refine WK.seq ?_ | refine WK.reg ?_ | refine IL.nil ?_ | refine WK.skip ?_ | refine WK.block ?_ | refine WK.exit_here ?_ | refine WK.e1 ?_ | refine WK.e2 ?_ | refine WK.drawnS (id := 26) mixed [] [27] [0, 0, 0, 0, 0, 0, 0, 0, 0, 0, 0, 0, 0, 0, 0, 0, 0, 0, 0, 0, 0, 0, 0, 0, 0, 0, 0, 0, 1, 1, 1] [0, 0, 0, 0, 0, 0, 0, 0, 0, 0, 0, 0, 0, 0, 0, 0, 0, 0, 0, 0, 0, 0, 0, 0, 0, 0, 0, 0, 1, 1, 1] (by decide +kernel) ?_ | refine DW.nil ?_ | (with_reducible refine IL.wr ?_ ?_; focus exact cW) | (with_reducible refine DW.wr ?_ ?_; focus exact cW) | refine IL.sgF ttok ?_ | refine IL.nn ?_ | refine DW.reF ttok ?_ | refine DW.rmF ttok ?_ | refine DW.nn ?_ | refine DW.nb ?_ | refine IL.cSF ttok ent6 [] true ?_ (hS := by exact anchor11) | refine IL.cSF ttok ent7 [.bor] true ?_ (hS := by first | exact hri | exact hri2) | refine IL.cSF ttok ent8 [.bor] true ?_ (hS := by exact hsm) | refine IL.cSF ttok ent9 [.own, .bor] false ?_ (hS := by exact hpu) | refine IL.cSF ttok ent10 [.bor] false ?_ (hS := by exact hvs) | refine IL.cSF ttok ent11 [.own, .bor] false ?_ (hS := by exact hta) | refine IL.cSF ttok ent12 [.bor] false ?_ (hS := by exact hes) | refine IL.cSF ttok ent22 [.own, .bor] false ?_ (hS := by exact hdr) | refine IL.cSF ttok ent24 [.bor, .bor] true ?_ (hS := by exact hha) | refine IL.cSF ttok ent25 [.bor, .bor] false ?_ (hS := by exact hp11) | refine IL.cSF ttok ent26 [.bor, .bor] true ?_ (hS := by exact hr11) | refine DW.cSF ttok ent27 [.bor, .bor] true ?_ (hS := by exact hse) | refine IL.cSF ttok ent28 [.bor, .bor] false ?_ (hS := by exact hw11) | refine IL.cSF ttok ent29 [.bor, .bor] false ?_ (hS := by exact hd11) | refine IL.cSF ttok ent30 [.own, .bor, .bor] false ?_ (hS := by exact his) | ((first | ((first | refine IL.ag (fun h => ?_) (fun h => ?_) | refine DW.ag (fun h => ?_) (fun h => ?_) | refine IL.ap (fun h => ?_) (fun h => ?_) | refine DW.ap (fun h => ?_) (fun h => ?_)); (fail_if_success (focus (simp only [reduceCtorEq] at h)))) | refine WK.cn (fun h => ?_) (fun h => ?_)); all_goals first | (simp only [reduceCtorEq] at h; done) | (simp only [hsA, hsD, hsE, ne_eq] at h; first | done | (exfalso; omega; done) | skip) | skip))
      all_goals try ((first | refine WK.ret ⟨.inr rfl, ?_⟩ | refine ⟨.inl rfl, ?_⟩ | refine ⟨.inl trivial, ?_⟩); refine Fin.o ?_ ?_ (h1 := by first | rfl | (simp only [go_sem, show Try.f5.results.toList = [.tmp 4] from rfl, reduceIte] <;> rfl)); rotate_left 1; (focus (first | rfl | skip)); all_goals try with_reducible rfl)
      all_goals first | refine ⟨(k + 1, B), by simp only; omega, ⟨by simp only; omega, hB⟩, ?_⟩ | (exfalso; rename_i q; revert q; first | decide | (simp; omega))
      (refine Weak.renS [0, 10] hfx rfl ?_ ?_ rfl <;> (simp only [go_sem, reduceIte, exists_eq_left', exists_eq_left, Blk.mk.injEq] <;> (try and_intros) <;> first | rfl | omega))
    · have hta := take_some B v hvv (by omega) hokB (by omega) K x hK hre hno
      have hKl : K < B.length := (List.getElem?_eq_some_iff.1 hK).1
      have hxB := List.mem_of_getElem? hK
      have hgx := hB.g x hxB
      have hr11 := ready11_call B v hvv (by omega) hokB (by omega) (K : Int) (fun h => by
        rw [h x hxB] at hre; cases hre) (fun i y hy ht hr => by
        rcases Nat.lt_trichotomy i K with h | h | h
        · rw [hno i y h hy] at hr; cases hr
        · rw [h]
        · have := ht x (List.mem_of_getElem? (i := K) (by rw [List.getElem?_take, if_pos h]; exact hK))
          rw [this] at hre; cases hre)
      have hse := sameE_yes x (by have := (hokB x hxB).2.2.2; omega) hgx.o72 hgx.s16
      have hw11 := SCall.frz (without11_call B K hKl (by omega)) rfl
      simp only [frzR] at hw11
      have hB2 := without_inv hB K
      have his := hnx _ hB2
      have hlx : K * 6 + 6 ≤ B.length * 6 := by omega
      have hax : ((encs envC B).drop (K * 6)).take 6 = envC x := encs_at envC_length hK
      have hnx6 : encs envC B ≠ [] := encs_ne envC_length (by decide) hK
      have hK0 : decide (0 ≤ (K : Int)) = true := decide_eq_true (by omega)
      rw [envC_eq] at hta hse hax
      clear hno hnx
      generalize B.take K ++ B.drop (K + 1) = B2 at *
      have FX := And.intro hat (And.intro hle (And.intro hlx (And.intro hax hK0)))
      repeat' (first | refine WK.seq ?_ | refine WK.reg ?_ | refine IL.nil ?_ | refine WK.skip ?_ | refine WK.block ?_ | refine WK.exit_here ?_ | refine WK.e1 ?_ | refine WK.e2 ?_ | refine WK.drawnS (id := 26) mixed [] [27] [0, 0, 0, 0, 0, 0, 0, 0, 0, 0, 0, 0, 0, 0, 0, 0, 0, 0, 0, 0, 0, 0, 0, 0, 0, 0, 0, 0, 1, 1, 1] [0, 0, 0, 0, 0, 0, 0, 0, 0, 0, 0, 0, 0, 0, 0, 0, 0, 0, 0, 0, 0, 0, 0, 0, 0, 0, 0, 0, 1, 1, 1] (by decide +kernel) ?_ | refine DW.nil ?_ | (with_reducible refine IL.wr ?_ ?_; focus exact cW) | (with_reducible refine DW.wr ?_ ?_; focus exact cW) | refine IL.sgF ttok ?_ | refine IL.nn ?_ | refine DW.reF ttok ?_ | refine DW.rmF ttok ?_ | refine DW.nn ?_ | refine DW.nb ?_ | refine IL.cSF ttok ent6 [] true ?_ (hS := by exact anchor11) | refine IL.cSF ttok ent7 [.bor] true ?_ (hS := by first | exact hri | exact hri2) | refine IL.cSF ttok ent8 [.bor] true ?_ (hS := by exact hsm) | refine IL.cSF ttok ent9 [.own, .bor] false ?_ (hS := by exact hpu) | refine IL.cSF ttok ent10 [.bor] false ?_ (hS := by exact hvs) | refine IL.cSF ttok ent11 [.own, .bor] false ?_ (hS := by exact hta) | refine IL.cSF ttok ent12 [.bor] false ?_ (hS := by exact hes) | refine IL.cSF ttok ent22 [.own, .bor] false ?_ (hS := by exact hdr) | refine IL.cSF ttok ent24 [.bor, .bor] true ?_ (hS := by exact hha) | refine IL.cSF ttok ent25 [.bor, .bor] false ?_ (hS := by exact hp11) | refine IL.cSF ttok ent26 [.bor, .bor] true ?_ (hS := by exact hr11) | refine DW.cSF ttok ent27 [.bor, .bor] true ?_ (hS := by exact hse) | refine IL.cSF ttok ent28 [.bor, .bor] false ?_ (hS := by exact hw11) | refine IL.cSF ttok ent29 [.bor, .bor] false ?_ (hS := by exact hd11) | refine IL.cSF ttok ent30 [.own, .bor, .bor] false ?_ (hS := by exact his) | ((first | ((first | refine IL.ag (fun h => ?_) (fun h => ?_) | refine DW.ag (fun h => ?_) (fun h => ?_) | refine IL.ap (fun h => ?_) (fun h => ?_) | refine DW.ap (fun h => ?_) (fun h => ?_)); (fail_if_success (focus (simp only [reduceCtorEq] at h)))) | refine WK.cn (fun h => ?_) (fun h => ?_)); all_goals first | (simp only [reduceCtorEq] at h; done) | (simp only [hsA, hsD, hsE, ne_eq] at h; first | done | (exfalso; omega; done) | skip) | skip))
      all_goals try ((first | refine WK.ret ⟨.inr rfl, ?_⟩ | refine ⟨.inl rfl, ?_⟩ | refine ⟨.inl trivial, ?_⟩); refine Fin.o ?_ ?_ (h1 := by first | rfl | (simp only [go_sem, show Try.f5.results.toList = [.tmp 4] from rfl, reduceIte] <;> rfl)); rotate_left 1; (focus (first | rfl | skip)); all_goals try with_reducible rfl)
      all_goals first | refine ⟨(k + 1, B2), by simp only; omega, ⟨by simp only; omega, hB2⟩, ?_⟩ | (exfalso; rename_i q; revert q; first | decide | (simp; omega))
      (refine Weak.renS [0, 10] hfx rfl ?_ ?_ rfl <;> (simp only [go_sem, reduceIte, exists_eq_left', exists_eq_left, Blk.mk.injEq] <;> (try and_intros) <;> first | rfl | omega))
  have hK2 : (K == 2) = false := beq_eq_false_iff_ne.2 h2
  by_cases h3 : K = 3
  · subst h3
    have hdr := drop_call B v hB.ok (by omega) hvv (by omega)
    have hd11 := SCall.frz (drop11_call B v hvv (by omega) hB.ok (by omega)) rfl
    simp only [frzR] at hd11
    have hB2 := keepE_inv hB v
    have his := hnx _ hB2
    have hkl2 : (keepE v B).length ≤ B.length := List.length_filter_le _ _
    have hw3 : IntKind.i64.wrap ((B.length : Int) - ((keepE v B).length : Int)) = (B.length : Int) - ((keepE v B).length : Int) := wrap_i64 (by omega) (by omega)
    generalize keepE v B = B2 at *
    have FX := And.intro hat (And.intro hle hw3)
    repeat' (first | refine WK.seq ?_ | refine WK.reg ?_ | refine IL.nil ?_ | refine WK.skip ?_ | refine WK.block ?_ | refine WK.exit_here ?_ | refine WK.e1 ?_ | refine WK.e2 ?_ | refine WK.drawnS (id := 26) mixed [] [27] [0, 0, 0, 0, 0, 0, 0, 0, 0, 0, 0, 0, 0, 0, 0, 0, 0, 0, 0, 0, 0, 0, 0, 0, 0, 0, 0, 0, 1, 1, 1] [0, 0, 0, 0, 0, 0, 0, 0, 0, 0, 0, 0, 0, 0, 0, 0, 0, 0, 0, 0, 0, 0, 0, 0, 0, 0, 0, 0, 1, 1, 1] (by decide +kernel) ?_ | refine DW.nil ?_ | (with_reducible refine IL.wr ?_ ?_; focus exact cW) | (with_reducible refine DW.wr ?_ ?_; focus exact cW) | refine IL.sgF ttok ?_ | refine IL.nn ?_ | refine DW.reF ttok ?_ | refine DW.rmF ttok ?_ | refine DW.nn ?_ | refine DW.nb ?_ | refine IL.cSF ttok ent6 [] true ?_ (hS := by exact anchor11) | refine IL.cSF ttok ent7 [.bor] true ?_ (hS := by first | exact hri | exact hri2) | refine IL.cSF ttok ent8 [.bor] true ?_ (hS := by exact hsm) | refine IL.cSF ttok ent9 [.own, .bor] false ?_ (hS := by exact hpu) | refine IL.cSF ttok ent10 [.bor] false ?_ (hS := by exact hvs) | refine IL.cSF ttok ent11 [.own, .bor] false ?_ (hS := by exact hta) | refine IL.cSF ttok ent12 [.bor] false ?_ (hS := by exact hes) | refine IL.cSF ttok ent22 [.own, .bor] false ?_ (hS := by exact hdr) | refine IL.cSF ttok ent24 [.bor, .bor] true ?_ (hS := by exact hha) | refine IL.cSF ttok ent25 [.bor, .bor] false ?_ (hS := by exact hp11) | refine IL.cSF ttok ent26 [.bor, .bor] true ?_ (hS := by exact hr11) | refine DW.cSF ttok ent27 [.bor, .bor] true ?_ (hS := by exact hse) | refine IL.cSF ttok ent28 [.bor, .bor] false ?_ (hS := by exact hw11) | refine IL.cSF ttok ent29 [.bor, .bor] false ?_ (hS := by exact hd11) | refine IL.cSF ttok ent30 [.own, .bor, .bor] false ?_ (hS := by exact his) | ((first | ((first | refine IL.ag (fun h => ?_) (fun h => ?_) | refine DW.ag (fun h => ?_) (fun h => ?_) | refine IL.ap (fun h => ?_) (fun h => ?_) | refine DW.ap (fun h => ?_) (fun h => ?_)); (fail_if_success (focus (simp only [reduceCtorEq] at h)))) | refine WK.cn (fun h => ?_) (fun h => ?_)); all_goals first | (simp only [reduceCtorEq] at h; done) | (simp only [hsA, hsD, hsE, ne_eq] at h; first | done | (exfalso; omega; done) | skip) | skip))
    refine ⟨(k + 1, B2), by simp only; omega, ⟨by simp only; omega, hB2⟩, ?_⟩
    (refine Weak.renS [0, 7] hfx rfl ?_ ?_ rfl <;> (simp only [go_sem, reduceIte, exists_eq_left', exists_eq_left, Blk.mk.injEq] <;> (try and_intros) <;> first | rfl | omega))
  · have hK3 : (K == 3) = false := beq_eq_false_iff_ne.2 h3
    have his := hnx B hB
    have FX := And.intro hat (And.intro hle (And.intro hK1 (And.intro hK2 hK3)))
    repeat' (first | refine WK.seq ?_ | refine WK.reg ?_ | refine IL.nil ?_ | refine WK.skip ?_ | refine WK.block ?_ | refine WK.exit_here ?_ | refine WK.e1 ?_ | refine WK.e2 ?_ | refine WK.drawnS (id := 26) mixed [] [27] [0, 0, 0, 0, 0, 0, 0, 0, 0, 0, 0, 0, 0, 0, 0, 0, 0, 0, 0, 0, 0, 0, 0, 0, 0, 0, 0, 0, 1, 1, 1] [0, 0, 0, 0, 0, 0, 0, 0, 0, 0, 0, 0, 0, 0, 0, 0, 0, 0, 0, 0, 0, 0, 0, 0, 0, 0, 0, 0, 1, 1, 1] (by decide +kernel) ?_ | refine DW.nil ?_ | (with_reducible refine IL.wr ?_ ?_; focus exact cW) | (with_reducible refine DW.wr ?_ ?_; focus exact cW) | refine IL.sgF ttok ?_ | refine IL.nn ?_ | refine DW.reF ttok ?_ | refine DW.rmF ttok ?_ | refine DW.nn ?_ | refine DW.nb ?_ | refine IL.cSF ttok ent6 [] true ?_ (hS := by exact anchor11) | refine IL.cSF ttok ent7 [.bor] true ?_ (hS := by first | exact hri | exact hri2) | refine IL.cSF ttok ent8 [.bor] true ?_ (hS := by exact hsm) | refine IL.cSF ttok ent9 [.own, .bor] false ?_ (hS := by exact hpu) | refine IL.cSF ttok ent10 [.bor] false ?_ (hS := by exact hvs) | refine IL.cSF ttok ent11 [.own, .bor] false ?_ (hS := by exact hta) | refine IL.cSF ttok ent12 [.bor] false ?_ (hS := by exact hes) | refine IL.cSF ttok ent22 [.own, .bor] false ?_ (hS := by exact hdr) | refine IL.cSF ttok ent24 [.bor, .bor] true ?_ (hS := by exact hha) | refine IL.cSF ttok ent25 [.bor, .bor] false ?_ (hS := by exact hp11) | refine IL.cSF ttok ent26 [.bor, .bor] true ?_ (hS := by exact hr11) | refine DW.cSF ttok ent27 [.bor, .bor] true ?_ (hS := by exact hse) | refine IL.cSF ttok ent28 [.bor, .bor] false ?_ (hS := by exact hw11) | refine IL.cSF ttok ent29 [.bor, .bor] false ?_ (hS := by exact hd11) | refine IL.cSF ttok ent30 [.own, .bor, .bor] false ?_ (hS := by exact his) | ((first | ((first | refine IL.ag (fun h => ?_) (fun h => ?_) | refine DW.ag (fun h => ?_) (fun h => ?_) | refine IL.ap (fun h => ?_) (fun h => ?_) | refine DW.ap (fun h => ?_) (fun h => ?_)); (fail_if_success (focus (simp only [reduceCtorEq] at h)))) | refine WK.cn (fun h => ?_) (fun h => ?_)); all_goals first | (simp only [reduceCtorEq] at h; done) | (simp only [hsA, hsD, hsE, ne_eq] at h; first | done | (exfalso; omega; done) | skip) | skip))
    refine ⟨(k + 1, B), by simp only; omega, ⟨by simp only; omega, hB⟩, ?_⟩
    (refine Weak.renS [0, 6] hfx rfl ?_ ?_ rfl <;> (simp only [go_sem, reduceIte, exists_eq_left', exists_eq_left, Blk.mk.injEq] <;> (try and_intros) <;> first | rfl | omega))
end Go.Proofs.Ytclhjcbnpdlgbaa
