/- package txn: the document reads a transaction. -/
import Derived.Test.YtclhjcbnpdlgbaaGreatDoorLXCQ6
import Derived.Test.YtclhjcbnpdlgbaaGreatDoorLA3
namespace Go.Proofs.YtclhjcbnpdlgbaaGreatDoor
open Go Go.Lift
set_option maxHeartbeats 8000000
set_option linter.unusedSimpArgs false
set_option linter.unusedVariables false
attribute [local irreducible] WK IL IP IG IW DW

theorem opRead_frz (l : List UInt8) (p : Nat) (nn : Nat) (hnn : nn = l.length) (hp : p ≤ l.length) (hl : l.length < 2 ^ 62) : SCall Tryz.prog 98 [.tr nn (bcells l), .v (.int .i64 (p : Int))]
    (.tup [.agg (opC (rOp l p 0).1), .v (.int .i64 ((rOp l p 0).2.1 : Int)), .v (.int .i64 (rOp l p 0).2.2)]) [.tr nn (bcells l), .v (.int .i64 (p : Int))] := (opRead_call l p nn hnn hp hl).frz rfl
def r5 (l : List UInt8) (p : Nat) (e : Int) : (Nat × Nat × Nat × Nat × Nat) × Nat × Int :=
  let x1 := rNum l p e 65535
  let x2 := rNum l x1.2.1 x1.2.2 268435456
  let x3 := rNum l x2.2.1 x2.2.2 1099511627776
  let x4 := rNum l x3.2.1 x3.2.2 7
  let x5 := rNum l x4.2.1 x4.2.2 16
  ((x1.1, x2.1, x3.1, x4.1, x5.1), x5.2)
theorem r5_of {l : List UInt8} {p a p1 b p2 c p3 d p4 n p5 : Nat} {e e1 e2 e3 e4 e5 : Int} (h1 : rNum l p e 65535 = (a, p1, e1)) (h2 : rNum l p1 e1 268435456 = (b, p2, e2)) (h3 : rNum l p2 e2 1099511627776 = (c, p3, e3)) (h4 : rNum l p3 e3 7 = (d, p4, e4)) (h5 : rNum l p4 e4 16 = (n, p5, e5)) :
    r5 l p e = ((a, b, c, d, n), p5, e5) := by
  unfold r5; simp only [h1, h2, h3, h4, h5]
def bad5 (l : List UInt8) (p : Nat) (x : Nat × Int) : Prop := ∃ a b c d, r5 l p 0 = ((a, b, c, d, 0), x)
theorem r5_err0 {l : List UInt8} {p a q : Nat} {e : Int} (h : rNum l p 0 65535 = (a, q, e)) (he : ¬ e = 0) : bad5 l p (q, e) := ⟨_, _, _, _, r5_of h (rNum_err l _ _ _ he) (rNum_err l _ _ _ he) (rNum_err l _ _ _ he) (rNum_err l _ _ _ he)⟩
theorem r5_err1 {l : List UInt8} {p a p1 b q : Nat} {e : Int} (h1 : rNum l p 0 65535 = (a, p1, 0)) (h : rNum l p1 0 268435456 = (b, q, e)) (he : ¬ e = 0) : bad5 l p (q, e) := ⟨_, _, _, _, r5_of h1 h (rNum_err l _ _ _ he) (rNum_err l _ _ _ he) (rNum_err l _ _ _ he)⟩
theorem r5_err2 {l : List UInt8} {p a p1 b p2 c q : Nat} {e : Int} (h1 : rNum l p 0 65535 = (a, p1, 0)) (h2 : rNum l p1 0 268435456 = (b, p2, 0)) (h : rNum l p2 0 1099511627776 = (c, q, e)) (he : ¬ e = 0) : bad5 l p (q, e) := ⟨_, _, _, _, r5_of h1 h2 h (rNum_err l _ _ _ he) (rNum_err l _ _ _ he)⟩
theorem r5_err3 {l : List UInt8} {p a p1 b p2 c p3 d q : Nat} {e : Int} (h1 : rNum l p 0 65535 = (a, p1, 0)) (h2 : rNum l p1 0 268435456 = (b, p2, 0)) (h3 : rNum l p2 0 1099511627776 = (c, p3, 0)) (h : rNum l p3 0 7 = (d, q, e)) (he : ¬ e = 0) : bad5 l p (q, e) := ⟨_, _, _, _, r5_of h1 h2 h3 h (rNum_err l _ _ _ he)⟩
theorem r5_err4 {l : List UInt8} {p a p1 b p2 c p3 d p4 n q : Nat} {e : Int} (h1 : rNum l p 0 65535 = (a, p1, 0)) (h2 : rNum l p1 0 268435456 = (b, p2, 0)) (h3 : rNum l p2 0 1099511627776 = (c, p3, 0)) (h4 : rNum l p3 0 7 = (d, p4, 0)) (h : rNum l p4 0 16 = (n, q, e)) (he : ¬ e = 0) : bad5 l p (q, e) := by
  obtain rfl := rNum_zero h he
  exact ⟨_, _, _, _, r5_of h1 h2 h3 h4 h⟩
theorem rTx_r5 {l : List UInt8} {p a b c d n q : Nat} {e : Int} (h : r5 l p 0 = ((a, b, c, d, n), q, e)) : rTx l p 0 = txF a b c d (opsGo l n [] q e) := by
  unfold r5 at h
  simp only [Prod.mk.injEq] at h
  obtain ⟨⟨rfl, rfl, rfl, rfl, rfl⟩, h6⟩ := h
  unfold rTx
  simp only [h6]
theorem rTx_bad {l : List UInt8} {p : Nat} {x : Nat × Int} (h : bad5 l p x) (hx : ¬ x.2 = 0) : rTx l p 0 = (⟨0, 0, 0, 0, []⟩, x) := by
  obtain ⟨a, b, c, d, h⟩ := h
  rw [rTx_r5 h, opsGo]
  unfold txF
  rw [if_neg hx]
theorem txRead_call (l : List UInt8) (p : Nat) (nn : Nat) (hnn : nn = l.length) (hp : p ≤ l.length) (hl : l.length < 2 ^ 62) : SCall Tryz.prog 75 [.tr nn (bcells l), .v (.int .i64 (p : Int))]
    (.tup [txO (rTx l p 0).1 71, .v (.int .i64 ((rTx l p 0).2.1 : Int)), .v (.int .i64 (rTx l p 0).2.2)]) [.tr nn (bcells l), .v (.int .i64 (p : Int))] := by
  subst hnn
  generalize hG : rTx l p 0 = G
  refine SCall.of_body' (TT := TT) (fun _ => false) [false, false] ttok Tryz.func75 rfl (Nat.le_of_ble_eq_true rfl) rfl fun fx hfx => WK.top ?_
  simp only [impl, imp, argT, List.append_nil, List.map_nil, List.nil_append, show Tryz.f75.ntmps = 78 from rfl, Nat.zero_add, Nat.reduceAdd]
  repeat' (first | refine WK.seq ?_ | refine WK.reg ?_ | refine IL.nil ?_ | refine WK.skip ?_ | refine WK.block ?_ | refine WK.exit_here ?_ | refine WK.e1 ?_ | refine WK.e2 ?_ | (with_reducible refine IL.wr ?_ ?_; focus exact cW) | refine IL.sg ttok ?_ | refine IL.nn ?_ | (refine IL.stepArr (σ' := ?_) ttok cG (fun K hK => ?_) ?_; rotate_left 1; (focus (simp only [go_sem, reduceIte]; exact cK hK))) | refine IL.cS ttok ent74 [.bor, .bor, .bor] true ?_ (hS := by refine readNum_call _ _ _ _ ?_ ?_ ?_ ?_ <;> exact cO) | refine IL.cS ttok ent98 [.bor, .bor] true ?_ (hS := by refine opRead_call _ _ _ ?_ ?_ ?_ <;> exact cO) | ((first | ((first | refine IL.ag (fun h => ?_) (fun h => ?_) | refine IL.ap (fun h => ?_) (fun h => ?_)); (fail_if_success (focus (simp only [reduceCtorEq] at h)))) | refine WK.cn (fun h => ?_) (fun h => ?_)); all_goals first | (simp only [reduceCtorEq] at h; done) | (simp only [hsA, hsD, hsE, ne_eq] at h; first | done | (exfalso; omega; done) | skip) | skip))
  refine WK.whileS (α := Nat × (Nat × Nat × Nat × Nat × Nat) × Nat × Int) (fun x => 5 - x.1) (fun x => x.1 ≤ 5 ∧ x.2.2.1 ≤ l.length ∧ x.2.1.1 ≤ 65535 ∧ x.2.1.2.1 ≤ 268435456 ∧ x.2.1.2.2.1 ≤ 1099511627776 ∧ x.2.1.2.2.2.1 ≤ 7 ∧ x.2.1.2.2.2.2 ≤ 16 ∧ (¬ x.2.2.2 = 0 → bad5 l p x.2.2) ∧
      (x.2.2.2 = 0 → (x.1 = 0 → x.2.2.1 = p) ∧ (x.1 = 1 → rNum l p 0 65535 = (x.2.1.1, x.2.2.1, 0)) ∧ (x.1 = 2 → ∃ p2, rNum l p 0 65535 = (x.2.1.1, p2, 0) ∧ rNum l p2 0 268435456 = (x.2.1.2.1, x.2.2.1, 0)) ∧
        (x.1 = 3 → ∃ p2 p3, rNum l p 0 65535 = (x.2.1.1, p2, 0) ∧ rNum l p2 0 268435456 = (x.2.1.2.1, p3, 0) ∧ rNum l p3 0 1099511627776 = (x.2.1.2.2.1, x.2.2.1, 0)) ∧
        (x.1 = 4 → ∃ p2 p3 p4, rNum l p 0 65535 = (x.2.1.1, p2, 0) ∧ rNum l p2 0 268435456 = (x.2.1.2.1, p3, 0) ∧ rNum l p3 0 1099511627776 = (x.2.1.2.2.1, p4, 0) ∧ rNum l p4 0 7 = (x.2.1.2.2.2.1, x.2.2.1, 0)) ∧ (x.1 = 5 → r5 l p 0 = x.2)))
    (fun x => ⟨78, [(0, .tr l.length (bcells l)), (1, .v (.int .i64 (x.2.2.1 : Int))), (4, .ptr 1 0 0), (7, .ptr 2 0 0), (8, .ptr 3 0 0), (9, .v (.int .i64 x.2.2.2)), (10, .v (.int .i64 (x.1 : Int)))],
      [some ⟨true, 71, 0, false, [], 0, false⟩, some ⟨false, 0, 1, false, txL 0 0 0 0 (.sl 0 0 0 0), 0, false⟩, some ⟨false, 0, 1, false, [.v (.int .u64 65535), .v (.int .u64 268435456), .v (.int .u64 1099511627776), .v (.int .u64 7), .v (.int .u64 16)], 0, false⟩, some ⟨false, 0, 1, false, [.v (.int .u64 (x.2.1.1 : Int)), .v (.int .u64 (x.2.1.2.1 : Int)), .v (.int .u64 (x.2.1.2.2.1 : Int)), .v (.int .u64 (x.2.1.2.2.2.1 : Int)), .v (.int .u64 (x.2.1.2.2.2.2 : Int))], 0, false⟩]⟩) (0, (0, 0, 0, 0, 0), p, 0) ⟨by simp [hp], ?_⟩ ?_
  · (refine Weak.renS [0, 1, 2, 3] hfx rfl ?_ ?_ rfl <;> (simp only [go_sem, reduceIte, exists_eq_left', exists_eq_left, Blk.mk.injEq, txL] <;> (try and_intros) <;> first | rfl | omega))
  · rintro ⟨j, ⟨a, b, c, d, n⟩, r, e⟩ ⟨hj, hr, ha, hb, hc, hd, hn, hne, hz⟩
    simp only at hj hr ha hb hc hd hn hne hz ⊢
    have hG1 : ¬ e = 0 → G = (⟨0, 0, 0, 0, []⟩, r, e) := fun h => by rw [← hG]; exact rTx_bad (hne h) h
    rcases Nat.eq_or_lt_of_le hj with rfl | hj
    · have hG0 : e = 0 → txF a b c d (opsGo l (n - 0) [] r 0) = G := fun h => by
        subst h
        rw [← hG, rTx_r5 ((hz rfl).2.2.2.2.2 rfl)]; rfl
      repeat' (first | (refine WK.empRow (σ' := ?_) ttok 5 4 71 rfl rfl rfl rfl ?_ ?_; rotate_left 1; (focus (simp only [go_sem, nilRow, List.set_cons_zero, List.set_cons_succ, List.cons_append, List.nil_append, reduceIte]; rfl))) | refine WK.seq ?_ | refine WK.reg ?_ | refine IL.nil ?_ | refine WK.skip ?_ | refine WK.block ?_ | refine WK.exit_here ?_ | refine WK.e1 ?_ | refine WK.e2 ?_ | (with_reducible refine IL.wr ?_ ?_; focus exact cW) | refine IL.sg ttok ?_ | refine IL.nn ?_ | (refine IL.stepArr (σ' := ?_) ttok cG (fun K hK => ?_) ?_; rotate_left 1; (focus (simp only [go_sem, reduceIte]; exact cK hK))) | refine IL.cS ttok ent74 [.bor, .bor, .bor] true ?_ (hS := by refine readNum_call _ _ _ _ ?_ ?_ ?_ ?_ <;> exact cO) | refine IL.cS ttok ent98 [.bor, .bor] true ?_ (hS := by refine opRead_call _ _ _ ?_ ?_ ?_ <;> exact cO) | ((first | ((first | refine IL.ag (fun h => ?_) (fun h => ?_) | refine IL.ap (fun h => ?_) (fun h => ?_)); (fail_if_success (focus (simp only [reduceCtorEq] at h)))) | refine WK.cn (fun h => ?_) (fun h => ?_)); all_goals first | (simp only [reduceCtorEq] at h; done) | (simp only [hsA, hsD, hsE, ne_eq] at h; first | done | (exfalso; omega; done) | skip) | skip))
      refine WK.whileS (α := Nat × List OpV × Nat × Int) (fun x => if x.2.2.2 = 0 then n + 1 - x.1 else 0) (fun x => x.1 ≤ n ∧ x.2.1.length = x.1 ∧ x.2.2.1 ≤ l.length ∧ (x.2.2.2 = 0 → txF a b c d (opsGo l (n - x.1) x.2.1 x.2.2.1 0) = G) ∧ (¬ x.2.2.2 = 0 → G = (⟨0, 0, 0, 0, []⟩, x.2.2)))
        (fun x => ⟨78, [(0, .tr l.length (bcells l)), (1, .v (.int .i64 (x.2.2.1 : Int))), (4, .ptr 1 0 0), (8, .ptr 2 0 0), (9, .v (.int .i64 x.2.2.2)), (11, .ptr 3 0 0), (12, .v (.int .u64 (x.1 : Int)))],
          [some ⟨true, 71, 0, false, [], 0, false⟩, some ⟨false, 0, 1, false, txL 0 0 0 0 (.sl 0 0 0 0), 0, false⟩, some ⟨false, 0, 1, false, [.v (.int .u64 (a : Int)), .v (.int .u64 (b : Int)), .v (.int .u64 (c : Int)), .v (.int .u64 (d : Int)), .v (.int .u64 (n : Int))], 0, false⟩, some ⟨false, 0, 1, false, txL a b c d (.sl 4 0 0 x.2.1.length), 0, false⟩, some ⟨true, 71, x.2.1.length, false, encs opC x.2.1, 0, false⟩]⟩) (0, [], r, e) ⟨⟨Nat.zero_le _, rfl, hr, hG0, hG1⟩, ?_⟩ ?_
      · (refine Weak.renS [0, 1, 3, 5, 6] hfx rfl ?_ ?_ rfl <;> (simp only [go_sem, reduceIte, exists_eq_left', exists_eq_left, Blk.mk.injEq, txL, List.length_nil, encs_nil] <;> (try and_intros) <;> first | rfl | omega))
      · rintro ⟨k, out, r2, e2⟩ ⟨hk, ho, hr2, hg0, hg1⟩
        simp only at hk ho hr2 hg0 hg1 ⊢
        by_cases he2 : e2 = 0
        · subst he2
          have hg := hg0 rfl
          rcases Nat.eq_or_lt_of_le hk with rfl | hk
          · rw [Nat.sub_self, opsGo] at hg
            subst hg
            unfold txF
            rw [if_pos rfl]
            repeat' (first | (refine WK.empRow (σ' := ?_) ttok 1 4 71 rfl rfl rfl rfl ?_ ?_; rotate_left 1; (focus (simp only [go_sem, nilRow, List.set_cons_zero, List.set_cons_succ, List.cons_append, List.nil_append, reduceIte]; rfl))) | refine WK.seq ?_ | refine WK.reg ?_ | refine IL.nil ?_ | refine WK.skip ?_ | refine WK.block ?_ | refine WK.exit_here ?_ | refine WK.e1 ?_ | refine WK.e2 ?_ | (with_reducible refine IL.wr ?_ ?_; focus exact cW) | refine IL.sg ttok ?_ | refine IL.nn ?_ | (refine IL.stepArr (σ' := ?_) ttok cG (fun K hK => ?_) ?_; rotate_left 1; (focus (simp only [go_sem, reduceIte]; exact cK hK))) | refine IL.cS ttok ent74 [.bor, .bor, .bor] true ?_ (hS := by refine readNum_call _ _ _ _ ?_ ?_ ?_ ?_ <;> exact cO) | refine IL.cS ttok ent98 [.bor, .bor] true ?_ (hS := by refine opRead_call _ _ _ ?_ ?_ ?_ <;> exact cO) | ((first | ((first | refine IL.ag (fun h => ?_) (fun h => ?_) | refine IL.ap (fun h => ?_) (fun h => ?_)); (fail_if_success (focus (simp only [reduceCtorEq] at h)))) | refine WK.cn (fun h => ?_) (fun h => ?_)); all_goals first | (simp only [reduceCtorEq] at h; done) | (simp only [hsA, hsD, hsE, ne_eq] at h; first | done | (exfalso; omega; done) | skip) | skip))
            all_goals try ((first | refine WK.ret ⟨.inr rfl, ?_⟩ | refine ⟨.inl rfl, ?_⟩ | refine ⟨.inl trivial, ?_⟩); refine Fin.o ?_ ?_ (h1 := by first | rfl | (simp only [go_sem, show Tryz.f75.results.toList = [.cell 4 37, .tmp 5, .tmp 6] from rfl, reduceIte] <;> rfl)); rotate_left 1; (focus (first | rfl | skip)); all_goals try with_reducible rfl)
            all_goals rfl
          · rw [show n - k = (n - (k + 1)) + 1 by omega, opsGo] at hg
            have hL := rOp_leN l r2 0 hr2
            have hc := opRead_frz l r2 l.length rfl hr2 hl
            rcases hro : rOp l r2 0 with ⟨o, q', e'⟩
            rw [hro] at hg hL hc
            simp only at hg hL hc
            obtain ⟨ok, or, on, om, ot, os, oq⟩ := o
            rw [show opC ⟨ok, or, on, om, ot, os, oq⟩ = [.v (.int .i64 ok), .v (.int .u16 or), .v (.int .u32 on), .v (.int .u32 om), .v (.string ⟨ot.toArray⟩), .tr os.length (encs spC os), .v (.int .u32 oq)] from rfl] at hc
            have hcs : encs opC out ++ [.v (.int .i64 ok), .v (.int .u16 or), .v (.int .u32 on), .v (.int .u32 om), .v (.string ⟨ot.toArray⟩), .tr os.length (encs spC os), .v (.int .u32 oq)] = encs opC (out ++ [⟨ok, or, on, om, ot, os, oq⟩]) := encs_snoc (f := opC) out ⟨ok, or, on, om, ot, os, oq⟩
            have hln : (out ++ [(⟨ok, or, on, om, ot, os, oq⟩ : OpV)]).length = out.length + 1 := by simp
            repeat' (first | (refine WK.empRow (σ' := ?_) ttok 1 4 71 rfl rfl rfl rfl ?_ ?_; rotate_left 1; (focus (simp only [go_sem, nilRow, List.set_cons_zero, List.set_cons_succ, List.cons_append, List.nil_append, reduceIte]; rfl))) | refine WK.seq ?_ | refine WK.reg ?_ | refine IL.nil ?_ | refine WK.skip ?_ | refine WK.block ?_ | refine WK.exit_here ?_ | refine WK.e1 ?_ | refine WK.e2 ?_ | (with_reducible refine IL.wr ?_ ?_; focus exact cW) | refine IL.sg ttok ?_ | refine IL.nn ?_ | (refine IL.stepArr (σ' := ?_) ttok cG (fun K hK => ?_) ?_; rotate_left 1; (focus (simp only [go_sem, reduceIte]; exact cK hK))) | refine IL.cS ttok ent74 [.bor, .bor, .bor] true ?_ (hS := by refine readNum_call _ _ _ _ ?_ ?_ ?_ ?_ <;> exact cO) | refine IL.cS ttok ent98 [.bor, .bor] false ?_ (hS := by exact hc) | ((first | ((first | refine IL.ag (fun h => ?_) (fun h => ?_) | refine IL.ap (fun h => ?_) (fun h => ?_)); (fail_if_success (focus (simp only [reduceCtorEq] at h)))) | refine WK.cn (fun h => ?_) (fun h => ?_)); all_goals first | (simp only [reduceCtorEq] at h; done) | (simp only [hsA, hsD, hsE, ne_eq] at h; first | done | (exfalso; omega; done) | skip) | skip))
            refine ⟨(k + 1, out ++ [⟨ok, or, on, om, ot, os, oq⟩], q', e'), by simp only; split <;> (try simp) <;> omega, ⟨by simp only; omega, by simp only [hln, ho], hL.1, fun h => by simp only at h; subst h; rw [if_pos rfl] at hg; exact hg, fun h => by simp only at h; rw [if_neg h] at hg; rw [← hg]; unfold txF; rw [if_neg h]⟩, ?_⟩
            (refine Weak.renS [0, 1, 2, 3, 4] hfx rfl ?_ ?_ rfl <;> (simp only [go_sem, reduceIte, exists_eq_left', exists_eq_left, Blk.mk.injEq, hcs, hln, txL] <;> (try and_intros) <;> first | rfl | omega))
        · have hg := hg1 he2
          subst hg
          repeat' (first | (refine WK.empRow (σ' := ?_) ttok 1 4 71 rfl rfl rfl rfl ?_ ?_; rotate_left 1; (focus (simp only [go_sem, nilRow, List.set_cons_zero, List.set_cons_succ, List.cons_append, List.nil_append, reduceIte]; rfl))) | refine WK.seq ?_ | refine WK.reg ?_ | refine IL.nil ?_ | refine WK.skip ?_ | refine WK.block ?_ | refine WK.exit_here ?_ | refine WK.e1 ?_ | refine WK.e2 ?_ | (with_reducible refine IL.wr ?_ ?_; focus exact cW) | refine IL.sg ttok ?_ | refine IL.nn ?_ | (refine IL.stepArr (σ' := ?_) ttok cG (fun K hK => ?_) ?_; rotate_left 1; (focus (simp only [go_sem, reduceIte]; exact cK hK))) | refine IL.cS ttok ent74 [.bor, .bor, .bor] true ?_ (hS := by refine readNum_call _ _ _ _ ?_ ?_ ?_ ?_ <;> exact cO) | refine IL.cS ttok ent98 [.bor, .bor] false ?_ (hS := by exact hc) | ((first | ((first | refine IL.ag (fun h => ?_) (fun h => ?_) | refine IL.ap (fun h => ?_) (fun h => ?_)); (fail_if_success (focus (simp only [reduceCtorEq] at h)))) | refine WK.cn (fun h => ?_) (fun h => ?_)); all_goals first | (simp only [reduceCtorEq] at h; done) | (simp only [hsA, hsD, hsE, ne_eq] at h; first | done | (exfalso; omega; done) | skip) | skip))
          all_goals try ((first | refine WK.ret ⟨.inr rfl, ?_⟩ | refine ⟨.inl rfl, ?_⟩ | refine ⟨.inl trivial, ?_⟩); refine Fin.o ?_ ?_ (h1 := by first | rfl | (simp only [go_sem, show Tryz.f75.results.toList = [.cell 4 37, .tmp 5, .tmp 6] from rfl, reduceIte] <;> rfl)); rotate_left 1; (focus (first | rfl | skip)); all_goals try with_reducible rfl)
          all_goals rfl
    · by_cases he : e = 0
      · subst he
        obtain ⟨z0, z1, z2, z3, z4, _⟩ := hz rfl
        obtain rfl | rfl | rfl | rfl | rfl : j = 0 ∨ j = 1 ∨ j = 2 ∨ j = 3 ∨ j = 4 := by omega
        · obtain rfl := z0 rfl
          have hA := rNum_le l r 0 65535 hr
          rcases hra : rNum l r 0 65535 with ⟨a', q1, e1⟩
          rw [hra] at hA
          simp only at hA
          have FX := hra
          repeat' (first | (refine WK.empRow (σ' := ?_) ttok 1 4 71 rfl rfl rfl rfl ?_ ?_; rotate_left 1; (focus (simp only [go_sem, nilRow, List.set_cons_zero, List.set_cons_succ, List.cons_append, List.nil_append, reduceIte]; rfl))) | refine WK.seq ?_ | refine WK.reg ?_ | refine IL.nil ?_ | refine WK.skip ?_ | refine WK.block ?_ | refine WK.exit_here ?_ | refine WK.e1 ?_ | refine WK.e2 ?_ | (with_reducible refine IL.wr ?_ ?_; focus exact cW) | refine IL.sgF ttok ?_ | refine IL.nn ?_ | (refine IL.stepArr (σ' := ?_) ttok cG (fun K hK => ?_) ?_; rotate_left 1; (focus (simp only [go_sem, reduceIte, hra]; exact cK hK))) | refine IL.cSF ttok ent74 [.bor, .bor, .bor] true ?_ (hS := by refine readNum_call _ _ _ _ ?_ ?_ ?_ ?_ <;> exact cO) | refine IL.cSF ttok ent98 [.bor, .bor] false ?_ (hS := by exact hc) | ((first | ((first | refine IL.ag (fun h => ?_) (fun h => ?_) | refine IL.ap (fun h => ?_) (fun h => ?_)); (fail_if_success (focus (simp only [reduceCtorEq] at h)))) | refine WK.cn (fun h => ?_) (fun h => ?_)); all_goals first | (simp only [reduceCtorEq] at h; done) | (simp only [hsA, hsD, hsE, ne_eq] at h; first | done | (exfalso; omega; done) | skip) | skip))
          refine ⟨(1, (a', b, c, d, n), q1, e1), by simp, ⟨by simp, hA.2, hA.1, hb, hc, hd, hn, fun h => r5_err0  hra h, fun h => by
            simp only at h
            subst h
            simp [hra]⟩, ?_⟩
          (refine Weak.renS [0, 1, 2, 3] hfx rfl ?_ ?_ rfl <;> (simp only [go_sem, reduceIte, exists_eq_left', exists_eq_left, Blk.mk.injEq, txL] <;> (try and_intros) <;> first | rfl | omega))
        · have w1 := z1 rfl
          have hA := rNum_le l r 0 268435456 hr
          rcases hra : rNum l r 0 268435456 with ⟨b', q1, e1⟩
          rw [hra] at hA
          simp only at hA
          have FX := hra
          repeat' (first | (refine WK.empRow (σ' := ?_) ttok 1 4 71 rfl rfl rfl rfl ?_ ?_; rotate_left 1; (focus (simp only [go_sem, nilRow, List.set_cons_zero, List.set_cons_succ, List.cons_append, List.nil_append, reduceIte]; rfl))) | refine WK.seq ?_ | refine WK.reg ?_ | refine IL.nil ?_ | refine WK.skip ?_ | refine WK.block ?_ | refine WK.exit_here ?_ | refine WK.e1 ?_ | refine WK.e2 ?_ | (with_reducible refine IL.wr ?_ ?_; focus exact cW) | refine IL.sgF ttok ?_ | refine IL.nn ?_ | (refine IL.stepArr (σ' := ?_) ttok cG (fun K hK => ?_) ?_; rotate_left 1; (focus (simp only [go_sem, reduceIte, hra]; exact cK hK))) | refine IL.cSF ttok ent74 [.bor, .bor, .bor] true ?_ (hS := by refine readNum_call _ _ _ _ ?_ ?_ ?_ ?_ <;> exact cO) | refine IL.cSF ttok ent98 [.bor, .bor] false ?_ (hS := by exact hc) | ((first | ((first | refine IL.ag (fun h => ?_) (fun h => ?_) | refine IL.ap (fun h => ?_) (fun h => ?_)); (fail_if_success (focus (simp only [reduceCtorEq] at h)))) | refine WK.cn (fun h => ?_) (fun h => ?_)); all_goals first | (simp only [reduceCtorEq] at h; done) | (simp only [hsA, hsD, hsE, ne_eq] at h; first | done | (exfalso; omega; done) | skip) | skip))
          refine ⟨(2, (a, b', c, d, n), q1, e1), by simp, ⟨by simp, hA.2, ha, hA.1, hc, hd, hn, fun h => r5_err1 w1 hra h, fun h => by
            simp only at h
            subst h
            simp; exact ⟨_, w1, hra⟩⟩, ?_⟩
          (refine Weak.renS [0, 1, 2, 3] hfx rfl ?_ ?_ rfl <;> (simp only [go_sem, reduceIte, exists_eq_left', exists_eq_left, Blk.mk.injEq, txL] <;> (try and_intros) <;> first | rfl | omega))
        · obtain ⟨p2, w1, w2⟩ := z2 rfl
          have hA := rNum_le l r 0 1099511627776 hr
          rcases hra : rNum l r 0 1099511627776 with ⟨c', q1, e1⟩
          rw [hra] at hA
          simp only at hA
          have FX := hra
          repeat' (first | (refine WK.empRow (σ' := ?_) ttok 1 4 71 rfl rfl rfl rfl ?_ ?_; rotate_left 1; (focus (simp only [go_sem, nilRow, List.set_cons_zero, List.set_cons_succ, List.cons_append, List.nil_append, reduceIte]; rfl))) | refine WK.seq ?_ | refine WK.reg ?_ | refine IL.nil ?_ | refine WK.skip ?_ | refine WK.block ?_ | refine WK.exit_here ?_ | refine WK.e1 ?_ | refine WK.e2 ?_ | (with_reducible refine IL.wr ?_ ?_; focus exact cW) | refine IL.sgF ttok ?_ | refine IL.nn ?_ | (refine IL.stepArr (σ' := ?_) ttok cG (fun K hK => ?_) ?_; rotate_left 1; (focus (simp only [go_sem, reduceIte, hra]; exact cK hK))) | refine IL.cSF ttok ent74 [.bor, .bor, .bor] true ?_ (hS := by refine readNum_call _ _ _ _ ?_ ?_ ?_ ?_ <;> exact cO) | refine IL.cSF ttok ent98 [.bor, .bor] false ?_ (hS := by exact hc) | ((first | ((first | refine IL.ag (fun h => ?_) (fun h => ?_) | refine IL.ap (fun h => ?_) (fun h => ?_)); (fail_if_success (focus (simp only [reduceCtorEq] at h)))) | refine WK.cn (fun h => ?_) (fun h => ?_)); all_goals first | (simp only [reduceCtorEq] at h; done) | (simp only [hsA, hsD, hsE, ne_eq] at h; first | done | (exfalso; omega; done) | skip) | skip))
          refine ⟨(3, (a, b, c', d, n), q1, e1), by simp, ⟨by simp, hA.2, ha, hb, hA.1, hd, hn, fun h => r5_err2 w1 w2 hra h, fun h => by
            simp only at h
            subst h
            simp; exact ⟨_, w1, _, w2, hra⟩⟩, ?_⟩
          (refine Weak.renS [0, 1, 2, 3] hfx rfl ?_ ?_ rfl <;> (simp only [go_sem, reduceIte, exists_eq_left', exists_eq_left, Blk.mk.injEq, txL] <;> (try and_intros) <;> first | rfl | omega))
        · obtain ⟨p2, p3, w1, w2, w3⟩ := z3 rfl
          have hA := rNum_le l r 0 7 hr
          rcases hra : rNum l r 0 7 with ⟨d', q1, e1⟩
          rw [hra] at hA
          simp only at hA
          have FX := hra
          repeat' (first | (refine WK.empRow (σ' := ?_) ttok 1 4 71 rfl rfl rfl rfl ?_ ?_; rotate_left 1; (focus (simp only [go_sem, nilRow, List.set_cons_zero, List.set_cons_succ, List.cons_append, List.nil_append, reduceIte]; rfl))) | refine WK.seq ?_ | refine WK.reg ?_ | refine IL.nil ?_ | refine WK.skip ?_ | refine WK.block ?_ | refine WK.exit_here ?_ | refine WK.e1 ?_ | refine WK.e2 ?_ | (with_reducible refine IL.wr ?_ ?_; focus exact cW) | refine IL.sgF ttok ?_ | refine IL.nn ?_ | (refine IL.stepArr (σ' := ?_) ttok cG (fun K hK => ?_) ?_; rotate_left 1; (focus (simp only [go_sem, reduceIte, hra]; exact cK hK))) | refine IL.cSF ttok ent74 [.bor, .bor, .bor] true ?_ (hS := by refine readNum_call _ _ _ _ ?_ ?_ ?_ ?_ <;> exact cO) | refine IL.cSF ttok ent98 [.bor, .bor] false ?_ (hS := by exact hc) | ((first | ((first | refine IL.ag (fun h => ?_) (fun h => ?_) | refine IL.ap (fun h => ?_) (fun h => ?_)); (fail_if_success (focus (simp only [reduceCtorEq] at h)))) | refine WK.cn (fun h => ?_) (fun h => ?_)); all_goals first | (simp only [reduceCtorEq] at h; done) | (simp only [hsA, hsD, hsE, ne_eq] at h; first | done | (exfalso; omega; done) | skip) | skip))
          refine ⟨(4, (a, b, c, d', n), q1, e1), by simp, ⟨by simp, hA.2, ha, hb, hc, hA.1, hn, fun h => r5_err3 w1 w2 w3 hra h, fun h => by
            simp only at h
            subst h
            simp; exact ⟨_, w1, _, w2, _, w3, hra⟩⟩, ?_⟩
          (refine Weak.renS [0, 1, 2, 3] hfx rfl ?_ ?_ rfl <;> (simp only [go_sem, reduceIte, exists_eq_left', exists_eq_left, Blk.mk.injEq, txL] <;> (try and_intros) <;> first | rfl | omega))
        · obtain ⟨p2, p3, p4, w1, w2, w3, w4⟩ := z4 rfl
          have hA := rNum_le l r 0 16 hr
          rcases hra : rNum l r 0 16 with ⟨n', q1, e1⟩
          rw [hra] at hA
          simp only at hA
          have FX := hra
          repeat' (first | (refine WK.empRow (σ' := ?_) ttok 1 4 71 rfl rfl rfl rfl ?_ ?_; rotate_left 1; (focus (simp only [go_sem, nilRow, List.set_cons_zero, List.set_cons_succ, List.cons_append, List.nil_append, reduceIte]; rfl))) | refine WK.seq ?_ | refine WK.reg ?_ | refine IL.nil ?_ | refine WK.skip ?_ | refine WK.block ?_ | refine WK.exit_here ?_ | refine WK.e1 ?_ | refine WK.e2 ?_ | (with_reducible refine IL.wr ?_ ?_; focus exact cW) | refine IL.sgF ttok ?_ | refine IL.nn ?_ | (refine IL.stepArr (σ' := ?_) ttok cG (fun K hK => ?_) ?_; rotate_left 1; (focus (simp only [go_sem, reduceIte, hra]; exact cK hK))) | refine IL.cSF ttok ent74 [.bor, .bor, .bor] true ?_ (hS := by refine readNum_call _ _ _ _ ?_ ?_ ?_ ?_ <;> exact cO) | refine IL.cSF ttok ent98 [.bor, .bor] false ?_ (hS := by exact hc) | ((first | ((first | refine IL.ag (fun h => ?_) (fun h => ?_) | refine IL.ap (fun h => ?_) (fun h => ?_)); (fail_if_success (focus (simp only [reduceCtorEq] at h)))) | refine WK.cn (fun h => ?_) (fun h => ?_)); all_goals first | (simp only [reduceCtorEq] at h; done) | (simp only [hsA, hsD, hsE, ne_eq] at h; first | done | (exfalso; omega; done) | skip) | skip))
          refine ⟨(5, (a, b, c, d, n'), q1, e1), by simp, ⟨by simp, hA.2, ha, hb, hc, hd, hA.1, fun h => r5_err4 w1 w2 w3 w4 hra h, fun h => by
            simp only at h
            subst h
            simp [r5_of w1 w2 w3 w4 hra]⟩, ?_⟩
          (refine Weak.renS [0, 1, 2, 3] hfx rfl ?_ ?_ rfl <;> (simp only [go_sem, reduceIte, exists_eq_left', exists_eq_left, Blk.mk.injEq, txL] <;> (try and_intros) <;> first | rfl | omega))
      · have hG0 : e = 0 → txF a b c d (opsGo l (n - 0) [] r 0) = G := fun h => absurd h he
        repeat' (first | (refine WK.empRow (σ' := ?_) ttok 5 4 71 rfl rfl rfl rfl ?_ ?_; rotate_left 1; (focus (simp only [go_sem, nilRow, List.set_cons_zero, List.set_cons_succ, List.cons_append, List.nil_append, reduceIte]; rfl))) | refine WK.seq ?_ | refine WK.reg ?_ | refine IL.nil ?_ | refine WK.skip ?_ | refine WK.block ?_ | refine WK.exit_here ?_ | refine WK.e1 ?_ | refine WK.e2 ?_ | (with_reducible refine IL.wr ?_ ?_; focus exact cW) | refine IL.sg ttok ?_ | refine IL.nn ?_ | (refine IL.stepArr (σ' := ?_) ttok cG (fun K hK => ?_) ?_; rotate_left 1; (focus (simp only [go_sem, reduceIte]; exact cK hK))) | refine IL.cS ttok ent74 [.bor, .bor, .bor] true ?_ (hS := by refine readNum_call _ _ _ _ ?_ ?_ ?_ ?_ <;> exact cO) | refine IL.cS ttok ent98 [.bor, .bor] true ?_ (hS := by refine opRead_call _ _ _ ?_ ?_ ?_ <;> exact cO) | ((first | ((first | refine IL.ag (fun h => ?_) (fun h => ?_) | refine IL.ap (fun h => ?_) (fun h => ?_)); (fail_if_success (focus (simp only [reduceCtorEq] at h)))) | refine WK.cn (fun h => ?_) (fun h => ?_)); all_goals first | (simp only [reduceCtorEq] at h; done) | (simp only [hsA, hsD, hsE, ne_eq] at h; first | done | (exfalso; omega; done) | skip) | skip))
        refine WK.whileS (α := Nat × List OpV × Nat × Int) (fun x => if x.2.2.2 = 0 then n + 1 - x.1 else 0) (fun x => x.1 ≤ n ∧ x.2.1.length = x.1 ∧ x.2.2.1 ≤ l.length ∧ (x.2.2.2 = 0 → txF a b c d (opsGo l (n - x.1) x.2.1 x.2.2.1 0) = G) ∧ (¬ x.2.2.2 = 0 → G = (⟨0, 0, 0, 0, []⟩, x.2.2)))
          (fun x => ⟨78, [(0, .tr l.length (bcells l)), (1, .v (.int .i64 (x.2.2.1 : Int))), (4, .ptr 1 0 0), (8, .ptr 2 0 0), (9, .v (.int .i64 x.2.2.2)), (11, .ptr 3 0 0), (12, .v (.int .u64 (x.1 : Int)))],
            [some ⟨true, 71, 0, false, [], 0, false⟩, some ⟨false, 0, 1, false, txL 0 0 0 0 (.sl 0 0 0 0), 0, false⟩, some ⟨false, 0, 1, false, [.v (.int .u64 (a : Int)), .v (.int .u64 (b : Int)), .v (.int .u64 (c : Int)), .v (.int .u64 (d : Int)), .v (.int .u64 (n : Int))], 0, false⟩, some ⟨false, 0, 1, false, txL a b c d (.sl 4 0 0 x.2.1.length), 0, false⟩, some ⟨true, 71, x.2.1.length, false, encs opC x.2.1, 0, false⟩]⟩) (0, [], r, e) ⟨⟨Nat.zero_le _, rfl, hr, hG0, hG1⟩, ?_⟩ ?_
        · (refine Weak.renS [0, 1, 3, 5, 6] hfx rfl ?_ ?_ rfl <;> (simp only [go_sem, reduceIte, exists_eq_left', exists_eq_left, Blk.mk.injEq, txL, List.length_nil, encs_nil] <;> (try and_intros) <;> first | rfl | omega))
        · rintro ⟨k, out, r2, e2⟩ ⟨hk, ho, hr2, hg0, hg1⟩
          simp only at hk ho hr2 hg0 hg1 ⊢
          by_cases he2 : e2 = 0
          · subst he2
            have hg := hg0 rfl
            rcases Nat.eq_or_lt_of_le hk with rfl | hk
            · rw [Nat.sub_self, opsGo] at hg
              subst hg
              unfold txF
              rw [if_pos rfl]
              repeat' (first | (refine WK.empRow (σ' := ?_) ttok 1 4 71 rfl rfl rfl rfl ?_ ?_; rotate_left 1; (focus (simp only [go_sem, nilRow, List.set_cons_zero, List.set_cons_succ, List.cons_append, List.nil_append, reduceIte]; rfl))) | refine WK.seq ?_ | refine WK.reg ?_ | refine IL.nil ?_ | refine WK.skip ?_ | refine WK.block ?_ | refine WK.exit_here ?_ | refine WK.e1 ?_ | refine WK.e2 ?_ | (with_reducible refine IL.wr ?_ ?_; focus exact cW) | refine IL.sg ttok ?_ | refine IL.nn ?_ | (refine IL.stepArr (σ' := ?_) ttok cG (fun K hK => ?_) ?_; rotate_left 1; (focus (simp only [go_sem, reduceIte]; exact cK hK))) | refine IL.cS ttok ent74 [.bor, .bor, .bor] true ?_ (hS := by refine readNum_call _ _ _ _ ?_ ?_ ?_ ?_ <;> exact cO) | refine IL.cS ttok ent98 [.bor, .bor] true ?_ (hS := by refine opRead_call _ _ _ ?_ ?_ ?_ <;> exact cO) | ((first | ((first | refine IL.ag (fun h => ?_) (fun h => ?_) | refine IL.ap (fun h => ?_) (fun h => ?_)); (fail_if_success (focus (simp only [reduceCtorEq] at h)))) | refine WK.cn (fun h => ?_) (fun h => ?_)); all_goals first | (simp only [reduceCtorEq] at h; done) | (simp only [hsA, hsD, hsE, ne_eq] at h; first | done | (exfalso; omega; done) | skip) | skip))
              all_goals try ((first | refine WK.ret ⟨.inr rfl, ?_⟩ | refine ⟨.inl rfl, ?_⟩ | refine ⟨.inl trivial, ?_⟩); refine Fin.o ?_ ?_ (h1 := by first | rfl | (simp only [go_sem, show Tryz.f75.results.toList = [.cell 4 37, .tmp 5, .tmp 6] from rfl, reduceIte] <;> rfl)); rotate_left 1; (focus (first | rfl | skip)); all_goals try with_reducible rfl)
              all_goals rfl
            · rw [show n - k = (n - (k + 1)) + 1 by omega, opsGo] at hg
              have hL := rOp_leN l r2 0 hr2
              have hc := opRead_frz l r2 l.length rfl hr2 hl
              rcases hro : rOp l r2 0 with ⟨o, q', e'⟩
              rw [hro] at hg hL hc
              simp only at hg hL hc
              obtain ⟨ok, or, on, om, ot, os, oq⟩ := o
              rw [show opC ⟨ok, or, on, om, ot, os, oq⟩ = [.v (.int .i64 ok), .v (.int .u16 or), .v (.int .u32 on), .v (.int .u32 om), .v (.string ⟨ot.toArray⟩), .tr os.length (encs spC os), .v (.int .u32 oq)] from rfl] at hc
              have hcs : encs opC out ++ [.v (.int .i64 ok), .v (.int .u16 or), .v (.int .u32 on), .v (.int .u32 om), .v (.string ⟨ot.toArray⟩), .tr os.length (encs spC os), .v (.int .u32 oq)] = encs opC (out ++ [⟨ok, or, on, om, ot, os, oq⟩]) := encs_snoc (f := opC) out ⟨ok, or, on, om, ot, os, oq⟩
              have hln : (out ++ [(⟨ok, or, on, om, ot, os, oq⟩ : OpV)]).length = out.length + 1 := by simp
              repeat' (first | (refine WK.empRow (σ' := ?_) ttok 1 4 71 rfl rfl rfl rfl ?_ ?_; rotate_left 1; (focus (simp only [go_sem, nilRow, List.set_cons_zero, List.set_cons_succ, List.cons_append, List.nil_append, reduceIte]; rfl))) | refine WK.seq ?_ | refine WK.reg ?_ | refine IL.nil ?_ | refine WK.skip ?_ | refine WK.block ?_ | refine WK.exit_here ?_ | refine WK.e1 ?_ | refine WK.e2 ?_ | (with_reducible refine IL.wr ?_ ?_; focus exact cW) | refine IL.sg ttok ?_ | refine IL.nn ?_ | (refine IL.stepArr (σ' := ?_) ttok cG (fun K hK => ?_) ?_; rotate_left 1; (focus (simp only [go_sem, reduceIte]; exact cK hK))) | refine IL.cS ttok ent74 [.bor, .bor, .bor] true ?_ (hS := by refine readNum_call _ _ _ _ ?_ ?_ ?_ ?_ <;> exact cO) | refine IL.cS ttok ent98 [.bor, .bor] false ?_ (hS := by exact hc) | ((first | ((first | refine IL.ag (fun h => ?_) (fun h => ?_) | refine IL.ap (fun h => ?_) (fun h => ?_)); (fail_if_success (focus (simp only [reduceCtorEq] at h)))) | refine WK.cn (fun h => ?_) (fun h => ?_)); all_goals first | (simp only [reduceCtorEq] at h; done) | (simp only [hsA, hsD, hsE, ne_eq] at h; first | done | (exfalso; omega; done) | skip) | skip))
              refine ⟨(k + 1, out ++ [⟨ok, or, on, om, ot, os, oq⟩], q', e'), by simp only; split <;> (try simp) <;> omega, ⟨by simp only; omega, by simp only [hln, ho], hL.1, fun h => by simp only at h; subst h; rw [if_pos rfl] at hg; exact hg, fun h => by simp only at h; rw [if_neg h] at hg; rw [← hg]; unfold txF; rw [if_neg h]⟩, ?_⟩
              (refine Weak.renS [0, 1, 2, 3, 4] hfx rfl ?_ ?_ rfl <;> (simp only [go_sem, reduceIte, exists_eq_left', exists_eq_left, Blk.mk.injEq, hcs, hln, txL] <;> (try and_intros) <;> first | rfl | omega))
          · have hg := hg1 he2
            subst hg
            repeat' (first | (refine WK.empRow (σ' := ?_) ttok 1 4 71 rfl rfl rfl rfl ?_ ?_; rotate_left 1; (focus (simp only [go_sem, nilRow, List.set_cons_zero, List.set_cons_succ, List.cons_append, List.nil_append, reduceIte]; rfl))) | refine WK.seq ?_ | refine WK.reg ?_ | refine IL.nil ?_ | refine WK.skip ?_ | refine WK.block ?_ | refine WK.exit_here ?_ | refine WK.e1 ?_ | refine WK.e2 ?_ | (with_reducible refine IL.wr ?_ ?_; focus exact cW) | refine IL.sg ttok ?_ | refine IL.nn ?_ | (refine IL.stepArr (σ' := ?_) ttok cG (fun K hK => ?_) ?_; rotate_left 1; (focus (simp only [go_sem, reduceIte]; exact cK hK))) | refine IL.cS ttok ent74 [.bor, .bor, .bor] true ?_ (hS := by refine readNum_call _ _ _ _ ?_ ?_ ?_ ?_ <;> exact cO) | refine IL.cS ttok ent98 [.bor, .bor] false ?_ (hS := by exact hc) | ((first | ((first | refine IL.ag (fun h => ?_) (fun h => ?_) | refine IL.ap (fun h => ?_) (fun h => ?_)); (fail_if_success (focus (simp only [reduceCtorEq] at h)))) | refine WK.cn (fun h => ?_) (fun h => ?_)); all_goals first | (simp only [reduceCtorEq] at h; done) | (simp only [hsA, hsD, hsE, ne_eq] at h; first | done | (exfalso; omega; done) | skip) | skip))
            all_goals try ((first | refine WK.ret ⟨.inr rfl, ?_⟩ | refine ⟨.inl rfl, ?_⟩ | refine ⟨.inl trivial, ?_⟩); refine Fin.o ?_ ?_ (h1 := by first | rfl | (simp only [go_sem, show Tryz.f75.results.toList = [.cell 4 37, .tmp 5, .tmp 6] from rfl, reduceIte] <;> rfl)); rotate_left 1; (focus (first | rfl | skip)); all_goals try with_reducible rfl)
            all_goals rfl
end Go.Proofs.YtclhjcbnpdlgbaaGreatDoor
/- package copyistref10: body. -/
namespace Go.Proofs.YtclhjcbnpdlgbaaGreatDoor
open Go Go.Lift
set_option maxHeartbeats 4000000
set_option linter.unusedSimpArgs false
set_option linter.unusedVariables false
attribute [local irreducible] WK IL IP IG IW DW

theorem rTx_err (l : List UInt8) (p : Nat) (e : Int) (he : ¬ e = 0) : (rTx l p e).2.2 = e := by
  have h := rNum_err l p e
  rw [rTx_of (h _ he) (h _ he) (h _ he) (h _ he) (h _ he)]
  unfold opsGo txF
  simp [he]
theorem body_call (c : List UInt8) (m : Nat) (hm : m = c.length) (hc : c.length ≤ 1048576)
    (n p0 : Nat) (e0 : Int) (hn : rNum c 0 0 65536 = (n, p0, e0)) (od : List Vc.Ve) (pd : Nat) (ed : Int) (hG : depsGo c n [] p0 e0 = (od, pd, ed)) (hpd : pd ≤ c.length) (tv : TxV) (q : Nat) (e2 : Int) (hT : rTx c pd ed = (tv, q, e2)) (hq : q ≤ c.length) (D F : Int) (hD : (if e2 = 0 ∧ q < c.length then 15 else e2) = D)
    (hfi : SCall Tryz.prog 10 [.agg (enT od tv.r tv.s tv.c tv.u tv.ops)] (.v (.int .i64 F)) [.agg (enT od tv.r tv.s tv.c tv.u tv.ops)]) :
    SCall Tryz.prog 50 [.tr m (bcells c)] (if D = 0 then (if F = 0 then .tup [.ago (enL (.own 102 od.length true (encs Vc.veC od)) tv.r tv.s tv.c tv.u (.own 71 tv.ops.length false (encs opC tv.ops))), .v (.int .i64 0)] else errIV F) else errIV D) [.tr m (bcells c)] := by
  subst hm
  have hle0 := rNum_le c 0 0 65536 (Nat.zero_le _)
  rw [hn] at hle0
  simp only at hle0
  have hnum0 := readNum_call c 0 65536 c.length rfl (Nat.zero_le _) (by omega) (by decide)
  rw [hn] at hnum0
  simp only at hnum0
  have hED : ¬ ed = 0 → D = ed := fun h => by
    have := rTx_err c pd ed h
    rw [hT] at this
    simp only at this
    rw [← hD, this, if_neg fun h2 => h h2.1]
  refine SCall.of_body' (TT := TT) (fun _ => false) [false] ttok Tryz.func50 rfl (Nat.le_of_ble_eq_true rfl) rfl fun fx hfx => WK.top ?_
  simp only [impl, imp, argT, List.append_nil, List.map_nil, List.nil_append, show Tryz.f50.ntmps = 80 from rfl, Nat.zero_add, Nat.reduceAdd]
  repeat' (first | (refine WK.empRow (σ' := ?_) ttok 5 0 102 rfl rfl rfl rfl ?_ ?_; rotate_left 1; (focus (simp only [go_sem, nilRow, List.set_cons_zero, List.set_cons_succ, List.cons_append, List.nil_append, reduceIte]; rfl))) | (refine WK.empRow (σ' := ?_) ttok 5 5 71 rfl rfl rfl rfl ?_ ?_; rotate_left 1; (focus (simp only [go_sem, nilRow, List.set_cons_zero, List.set_cons_succ, List.cons_append, List.nil_append, reduceIte]; rfl))) | refine WK.seq ?_ | refine WK.reg ?_ | refine IL.nil ?_ | refine WK.skip ?_ | refine WK.block ?_ | refine WK.exit_here ?_ | refine WK.e1 ?_ | refine WK.e2 ?_ | (with_reducible refine IL.wr ?_ ?_; focus exact cW) | refine IL.sg ttok ?_ | refine IL.nn ?_ | refine IL.cS ttok ent10 [.bor] true ?_ (hS := by exact hfi) | refine IL.cS ttok ent74 [.bor, .bor, .bor] true ?_ (hS := by first | exact hnum0 | exact hnum1 | exact hnum2) | refine IL.cS ttok ent75 [.bor, .bor] false ?_ (hS := by exact hget) | ((first | ((first | refine IL.ag (fun h => ?_) (fun h => ?_) | refine IL.ap (fun h => ?_) (fun h => ?_)); (fail_if_success (focus (simp only [reduceCtorEq] at h)))) | refine WK.cn (fun h => ?_) (fun h => ?_)); all_goals first | (simp only [reduceCtorEq] at h; done) | (simp only [hsA, hsD, hsE, ne_eq] at h; first | done | (exfalso; omega; done) | skip) | skip))
  refine WK.whileS (α := Nat × List Vc.Ve × Nat × Int) (fun x => n - x.1) (fun x => x.1 ≤ n ∧ x.2.1.length = x.1 ∧ x.2.2.1 ≤ c.length ∧ (x.1 < n → x.2.2.2 = 0 → depsGo c (n - x.1) x.2.1 x.2.2.1 0 = (od, pd, ed)) ∧ (¬ (x.1 < n ∧ x.2.2.2 = 0) → x.2 = (od, pd, ed)))
    (fun x => ⟨80, [(0, .tr c.length (bcells c)), (2, .ptr 2 0 0), (4, .ptr 5 0 0), (5, .v (.int .u64 n)), (6, .v (.int .i64 (x.2.2.1 : Int))), (7, .v (.int .i64 x.2.2.2)), (8, .v (.int .u64 x.1))], [some ⟨true, 71, 0, false, [], 0, false⟩, some ⟨true, 102, 0, true, [], 0, false⟩, some ⟨false, 0, 1, false, enL (.sl 1 0 0 0) 0 0 0 0 (.sl 0 0 0 0), 0, false⟩, some ⟨true, 71, 0, false, [], 0, false⟩, some ⟨true, 102, x.2.1.length, true, encs Vc.veC x.2.1, 0, false⟩, some ⟨false, 0, 1, false, enL (.sl 4 0 0 x.2.1.length) 0 0 0 0 (.sl 3 0 0 0), 0, false⟩]⟩) (0, [], p0, e0) ⟨⟨Nat.zero_le _, rfl, hle0.2, fun h1 h2 => by simp only at h2; subst h2; simpa using hG, fun h => ?_⟩, ?_⟩ ?_
  · simp only at h ⊢
    have hn0 : n = 0 := by
      rcases Nat.eq_zero_or_pos n with h0 | h0
      · exact h0
      · exact rNum_zero hn fun h3 => h ⟨h0, h3⟩
    subst hn0
    rw [← hG, depsGo]
  · (refine Weak.renS [0, 1, 2, 7, 6, 5] hfx rfl ?_ ?_ rfl <;> (simp only [go_sem, reduceIte, exists_eq_left', exists_eq_left, Blk.mk.injEq, encs_nil, List.length_nil] <;> (try and_intros) <;> first | rfl | omega))
  · rintro ⟨k, out, p, e⟩ ⟨hk, hol, hp, hg, hx⟩
    simp only at hk hol hp hg hx ⊢
    by_cases hke : k < n ∧ e = 0
    · obtain ⟨hk1, rfl⟩ := hke
      have hg := hg hk1 rfl
      obtain ⟨d, hd⟩ : ∃ d, n - k = d + 1 := ⟨n - k - 1, by omega⟩
      rw [hd] at hg
      have hl1 := rNum_le c p 0 65535 hp
      have hnum1 := readNum_call c p 65535 c.length rfl hp (by omega) (by decide)
      rcases h1 : rNum c p 0 65535 with ⟨a, p1, e1⟩
      rw [h1] at hl1 hnum1
      simp only at hl1 hnum1
      by_cases he1 : e1 = 0
      · subst he1
        have hl2 := rNum_le c p1 0 268435456 hl1.2
        have hnum2 := readNum_call c p1 268435456 c.length rfl hl1.2 (by omega) (by decide)
        rcases h2 : rNum c p1 0 268435456 with ⟨a2, p2, e3⟩
        rw [h2] at hl2 hnum2
        simp only at hl2 hnum2
        rw [depsGo_of h1 h2] at hg
        have hcs : encs Vc.veC out ++ [.v (.int .u16 (a : Int)), .v (.int .u32 (a2 : Int))] = encs Vc.veC (out ++ [((a : Int), (a2 : Int))]) := encs_snoc (f := Vc.veC) out ((a : Int), (a2 : Int))
        repeat' (first | refine WK.seq ?_ | refine WK.reg ?_ | refine IL.nil ?_ | refine WK.skip ?_ | refine WK.block ?_ | refine WK.exit_here ?_ | refine WK.e1 ?_ | refine WK.e2 ?_ | (with_reducible refine IL.wr ?_ ?_; focus exact cW) | refine IL.sg ttok ?_ | refine IL.nn ?_ | refine IL.cS ttok ent10 [.bor] true ?_ (hS := by exact hfi) | refine IL.cS ttok ent74 [.bor, .bor, .bor] true ?_ (hS := by first | exact hnum0 | exact hnum1 | exact hnum2) | refine IL.cS ttok ent75 [.bor, .bor] false ?_ (hS := by exact hget) | ((first | ((first | refine IL.ag (fun h => ?_) (fun h => ?_) | refine IL.ap (fun h => ?_) (fun h => ?_)); (fail_if_success (focus (simp only [reduceCtorEq] at h)))) | refine WK.cn (fun h => ?_) (fun h => ?_)); all_goals first | (simp only [reduceCtorEq] at h; done) | (simp only [hsA, hsD, hsE, ne_eq] at h; first | done | (exfalso; omega; done) | skip) | skip))
        refine ⟨(k + 1, out ++ [((a : Int), (a2 : Int))], p2, e3), by simp only; omega, ⟨hk1, by simp only [List.length_append, List.length_cons, List.length_nil]; omega, hl2.2, fun h3 h4 => ?_, fun h3 => ?_⟩, ?_⟩
        · simp only at h3 h4
          rw [if_pos h4] at hg
          have : n - (k + 1) = d := by omega
          rw [this]; exact hg
        · simp only at h3
          by_cases h4 : e3 = 0
          · rw [if_pos h4] at hg
            have : d = 0 := by
              have : ¬ k + 1 < n := fun h5 => h3 ⟨h5, h4⟩
              omega
            subst this
            rw [depsGo] at hg
            rw [← hg, h4]
          · rw [if_neg h4] at hg
            rw [← hg]
        · (refine Weak.renS [0, 1, 2, 3, 4, 5] hfx rfl ?_ ?_ rfl <;> (simp only [go_sem, reduceIte, exists_eq_left', exists_eq_left, Blk.mk.injEq, hcs, List.length_append] <;> (try and_intros) <;> first | rfl | omega))
      · rw [depsGo_of h1 (rNum_err c p1 e1 _ he1), if_neg he1] at hg
        have hcs : encs Vc.veC out ++ [.v (.int .u16 (a : Int)), .v (.int .u32 0)] = encs Vc.veC (out ++ [((a : Int), ((0 : Nat) : Int))]) := encs_snoc (f := Vc.veC) out ((a : Int), ((0 : Nat) : Int))
        repeat' (first | refine WK.seq ?_ | refine WK.reg ?_ | refine IL.nil ?_ | refine WK.skip ?_ | refine WK.block ?_ | refine WK.exit_here ?_ | refine WK.e1 ?_ | refine WK.e2 ?_ | (with_reducible refine IL.wr ?_ ?_; focus exact cW) | refine IL.sg ttok ?_ | refine IL.nn ?_ | refine IL.cS ttok ent10 [.bor] true ?_ (hS := by exact hfi) | refine IL.cS ttok ent74 [.bor, .bor, .bor] true ?_ (hS := by first | exact hnum0 | exact hnum1 | exact hnum2) | refine IL.cS ttok ent75 [.bor, .bor] false ?_ (hS := by exact hget) | ((first | ((first | refine IL.ag (fun h => ?_) (fun h => ?_) | refine IL.ap (fun h => ?_) (fun h => ?_)); (fail_if_success (focus (simp only [reduceCtorEq] at h)))) | refine WK.cn (fun h => ?_) (fun h => ?_)); all_goals first | (simp only [reduceCtorEq] at h; done) | (simp only [hsA, hsD, hsE, ne_eq] at h; first | done | (exfalso; omega; done) | skip) | skip))
        refine ⟨(k + 1, out ++ [((a : Int), ((0 : Nat) : Int))], p1, e1), by simp only; omega, ⟨hk1, by simp only [List.length_append, List.length_cons, List.length_nil]; omega, hl1.2, fun h3 h4 => absurd h4 he1, fun _ => hg⟩, ?_⟩
        (refine Weak.renS [0, 1, 2, 3, 4, 5] hfx rfl ?_ ?_ rfl <;> (simp only [go_sem, reduceIte, exists_eq_left', exists_eq_left, Blk.mk.injEq, hcs, List.length_append] <;> (try and_intros) <;> first | rfl | omega))
    · cases hx hke
      clear hg hx
      by_cases hed : ed = 0
      · subst hed
        have hget := txRead_call c pd c.length rfl hpd (by omega)
        rw [hT] at hget
        simp only at hget
        by_cases hD0 : D = 0
        · subst hD0
          have he2 : e2 = 0 := by
            by_cases h : e2 = 0 ∧ q < c.length
            · rw [if_pos h] at hD; cases hD
            · rw [if_neg h] at hD; exact hD
          subst he2
          have hqc : ¬ q < c.length := fun h => by rw [if_pos ⟨rfl, h⟩] at hD; cases hD
          by_cases hF0 : F = 0
          · subst hF0
            rw [if_pos rfl, if_pos rfl]
            repeat' (first | refine WK.seq ?_ | refine WK.reg ?_ | refine IL.nil ?_ | refine WK.skip ?_ | refine WK.block ?_ | refine WK.exit_here ?_ | refine WK.e1 ?_ | refine WK.e2 ?_ | (with_reducible refine IL.wr ?_ ?_; focus exact cW) | refine IL.sg ttok ?_ | refine IL.nn ?_ | refine IL.cS ttok ent10 [.bor] true ?_ (hS := by exact hfi) | refine IL.cS ttok ent74 [.bor, .bor, .bor] true ?_ (hS := by first | exact hnum0 | exact hnum1 | exact hnum2) | refine IL.cS ttok ent75 [.bor, .bor] false ?_ (hS := by exact hget) | ((first | ((first | refine IL.ag (fun h => ?_) (fun h => ?_) | refine IL.ap (fun h => ?_) (fun h => ?_)); (fail_if_success (focus (simp only [reduceCtorEq] at h)))) | refine WK.cn (fun h => ?_) (fun h => ?_)); all_goals first | (simp only [reduceCtorEq] at h; done) | (simp only [hsA, hsD, hsE, ne_eq] at h; first | done | (exfalso; omega; done) | skip) | skip))
            all_goals try ((first | refine WK.ret ⟨.inr rfl, ?_⟩ | refine ⟨.inl rfl, ?_⟩ | refine ⟨.inl trivial, ?_⟩); refine Fin.o ?_ ?_ (h1 := by first | rfl | (simp only [go_sem, show Tryz.f50.results.toList = [.cell 2 39, .tmp 3] from rfl, reduceIte] <;> rfl)); rotate_left 1; (focus (first | rfl | skip)); all_goals try with_reducible rfl)
            all_goals skip
          · rw [if_pos rfl, if_neg hF0]
            unfold errIV
            repeat' (first | refine WK.seq ?_ | refine WK.reg ?_ | refine IL.nil ?_ | refine WK.skip ?_ | refine WK.block ?_ | refine WK.exit_here ?_ | refine WK.e1 ?_ | refine WK.e2 ?_ | (with_reducible refine IL.wr ?_ ?_; focus exact cW) | refine IL.sg ttok ?_ | refine IL.nn ?_ | refine IL.cS ttok ent10 [.bor] true ?_ (hS := by exact hfi) | refine IL.cS ttok ent74 [.bor, .bor, .bor] true ?_ (hS := by first | exact hnum0 | exact hnum1 | exact hnum2) | refine IL.cS ttok ent75 [.bor, .bor] false ?_ (hS := by exact hget) | ((first | ((first | refine IL.ag (fun h => ?_) (fun h => ?_) | refine IL.ap (fun h => ?_) (fun h => ?_)); (fail_if_success (focus (simp only [reduceCtorEq] at h)))) | refine WK.cn (fun h => ?_) (fun h => ?_)); all_goals first | (simp only [reduceCtorEq] at h; done) | (simp only [hsA, hsD, hsE, ne_eq] at h; first | done | (exfalso; omega; done) | skip) | skip))
            all_goals try ((first | refine WK.ret ⟨.inr rfl, ?_⟩ | refine ⟨.inl rfl, ?_⟩ | refine ⟨.inl trivial, ?_⟩); refine Fin.o ?_ ?_ (h1 := by first | rfl | (simp only [go_sem, show Tryz.f50.results.toList = [.cell 2 39, .tmp 3] from rfl, reduceIte] <;> rfl)); rotate_left 1; (focus (first | rfl | skip)); all_goals try with_reducible rfl)
            all_goals rfl
        · rw [if_neg hD0]
          unfold errIV
          by_cases he2 : e2 = 0
          · subst he2
            have hqc : q < c.length := Classical.byContradiction fun h => by rw [if_neg fun h2 => h h2.2] at hD; exact hD0 hD.symm
            rw [if_pos ⟨rfl, hqc⟩] at hD
            subst hD
            repeat' (first | refine WK.seq ?_ | refine WK.reg ?_ | refine IL.nil ?_ | refine WK.skip ?_ | refine WK.block ?_ | refine WK.exit_here ?_ | refine WK.e1 ?_ | refine WK.e2 ?_ | (with_reducible refine IL.wr ?_ ?_; focus exact cW) | refine IL.sg ttok ?_ | refine IL.nn ?_ | refine IL.cS ttok ent10 [.bor] true ?_ (hS := by exact hfi) | refine IL.cS ttok ent74 [.bor, .bor, .bor] true ?_ (hS := by first | exact hnum0 | exact hnum1 | exact hnum2) | refine IL.cS ttok ent75 [.bor, .bor] false ?_ (hS := by exact hget) | ((first | ((first | refine IL.ag (fun h => ?_) (fun h => ?_) | refine IL.ap (fun h => ?_) (fun h => ?_)); (fail_if_success (focus (simp only [reduceCtorEq] at h)))) | refine WK.cn (fun h => ?_) (fun h => ?_)); all_goals first | (simp only [reduceCtorEq] at h; done) | (simp only [hsA, hsD, hsE, ne_eq] at h; first | done | (exfalso; omega; done) | skip) | skip))
            all_goals try ((first | refine WK.ret ⟨.inr rfl, ?_⟩ | refine ⟨.inl rfl, ?_⟩ | refine ⟨.inl trivial, ?_⟩); refine Fin.o ?_ ?_ (h1 := by first | rfl | (simp only [go_sem, show Tryz.f50.results.toList = [.cell 2 39, .tmp 3] from rfl, reduceIte] <;> rfl)); rotate_left 1; (focus (first | rfl | skip)); all_goals try with_reducible rfl)
            all_goals rfl
          · rw [if_neg fun h => he2 h.1] at hD
            subst hD
            repeat' (first | refine WK.seq ?_ | refine WK.reg ?_ | refine IL.nil ?_ | refine WK.skip ?_ | refine WK.block ?_ | refine WK.exit_here ?_ | refine WK.e1 ?_ | refine WK.e2 ?_ | (with_reducible refine IL.wr ?_ ?_; focus exact cW) | refine IL.sg ttok ?_ | refine IL.nn ?_ | refine IL.cS ttok ent10 [.bor] true ?_ (hS := by exact hfi) | refine IL.cS ttok ent74 [.bor, .bor, .bor] true ?_ (hS := by first | exact hnum0 | exact hnum1 | exact hnum2) | refine IL.cS ttok ent75 [.bor, .bor] false ?_ (hS := by exact hget) | ((first | ((first | refine IL.ag (fun h => ?_) (fun h => ?_) | refine IL.ap (fun h => ?_) (fun h => ?_)); (fail_if_success (focus (simp only [reduceCtorEq] at h)))) | refine WK.cn (fun h => ?_) (fun h => ?_)); all_goals first | (simp only [reduceCtorEq] at h; done) | (simp only [hsA, hsD, hsE, ne_eq] at h; first | done | (exfalso; omega; done) | skip) | skip))
            all_goals try ((first | refine WK.ret ⟨.inr rfl, ?_⟩ | refine ⟨.inl rfl, ?_⟩ | refine ⟨.inl trivial, ?_⟩); refine Fin.o ?_ ?_ (h1 := by first | rfl | (simp only [go_sem, show Tryz.f50.results.toList = [.cell 2 39, .tmp 3] from rfl, reduceIte] <;> rfl)); rotate_left 1; (focus (first | rfl | skip)); all_goals try with_reducible rfl)
            all_goals rfl
      · have := hED hed
        subst this
        rw [if_neg hed]
        unfold errIV
        repeat' (first | refine WK.seq ?_ | refine WK.reg ?_ | refine IL.nil ?_ | refine WK.skip ?_ | refine WK.block ?_ | refine WK.exit_here ?_ | refine WK.e1 ?_ | refine WK.e2 ?_ | (with_reducible refine IL.wr ?_ ?_; focus exact cW) | refine IL.sg ttok ?_ | refine IL.nn ?_ | refine IL.cS ttok ent10 [.bor] true ?_ (hS := by exact hfi) | refine IL.cS ttok ent74 [.bor, .bor, .bor] true ?_ (hS := by first | exact hnum0 | exact hnum1 | exact hnum2) | refine IL.cS ttok ent75 [.bor, .bor] false ?_ (hS := by exact hget) | ((first | ((first | refine IL.ag (fun h => ?_) (fun h => ?_) | refine IL.ap (fun h => ?_) (fun h => ?_)); (fail_if_success (focus (simp only [reduceCtorEq] at h)))) | refine WK.cn (fun h => ?_) (fun h => ?_)); all_goals first | (simp only [reduceCtorEq] at h; done) | (simp only [hsA, hsD, hsE, ne_eq] at h; first | done | (exfalso; omega; done) | skip) | skip))
        all_goals try ((first | refine WK.ret ⟨.inr rfl, ?_⟩ | refine ⟨.inl rfl, ?_⟩ | refine ⟨.inl trivial, ?_⟩); refine Fin.o ?_ ?_ (h1 := by first | rfl | (simp only [go_sem, show Tryz.f50.results.toList = [.cell 2 39, .tmp 3] from rfl, reduceIte] <;> rfl)); rotate_left 1; (focus (first | rfl | skip)); all_goals try with_reducible rfl)
        all_goals rfl
end Go.Proofs.YtclhjcbnpdlgbaaGreatDoor
/- package copyistref10: Read. -/
namespace Go.Proofs.YtclhjcbnpdlgbaaGreatDoor
open Go Go.Lift
set_option maxHeartbeats 4000000
set_option linter.unusedSimpArgs false
set_option linter.unusedVariables false
attribute [local irreducible] WK IL IP IG IW DW

theorem take3 (b : List UInt8) (h1 : ¬ b.length < 11) : b.take 3 = [67, 80, 1] ↔ (b.getD 0 0).toNat = 67 ∧ (b.getD 1 0).toNat = 80 ∧ (b.getD 2 0).toNat = 1 := by
  match b, h1 with
  | [], h => exact absurd (by simp) h
  | [_], h => exact absurd (by simp) h
  | [_, _], h => exact absurd (by simp) h
  | x :: y :: z :: t, _ =>
    simp only [List.take_succ_cons, List.take_zero, List.getD_cons_zero, List.getD_cons_succ, List.cons.injEq, and_true]
    exact and_congr (UInt8.toNat_inj (b := 67)).symm (and_congr (UInt8.toNat_inj (b := 80)).symm (UInt8.toNat_inj (b := 1)).symm)
theorem read_short (b : List UInt8) (h : b.length < 11) : SCall Tryz.prog 16 [.tr b.length (bcells b)] (errIV 14) [.tr b.length (bcells b)] := by
  unfold errIV
  refine SCall.of_body' (TT := TT) (fun _ => false) [false] ttok Tryz.func16 rfl (Nat.le_of_ble_eq_true rfl) rfl fun fx hfx => WK.top ?_
  simp only [impl, imp, argT, List.append_nil, List.map_nil, List.nil_append, show Tryz.f16.ntmps = 76 from rfl, Nat.zero_add, Nat.reduceAdd]
  repeat' (first | refine WK.seq ?_ | refine WK.reg ?_ | refine IL.nil ?_ | refine WK.skip ?_ | refine WK.drawnS (id := 5) mixed [] [] [] [] (by decide +kernel) ?_ | refine WK.drawnS (id := 9) mixed [] [1] [0, 0, 1, 0, 0, 1] [0, 0, 1, 1, 1, 1] (by decide +kernel) ?_ | refine DW.nil ?_ | (with_reducible refine IL.wr ?_ ?_; focus exact cW) | (with_reducible refine DW.wr ?_ ?_; focus exact cW) | refine IL.sg ttok ?_ | refine IL.nn ?_ | refine DW.re ttok ?_ | refine DW.rm ttok ?_ | refine DW.cS ttok ent48 [.bor] true ?_ (hS := by exact hse) | refine IL.cS ttok ent50 [.bor] false ?_ (hS := by exact hbo) | ((first | ((first | refine IL.ag (fun h => ?_) (fun h => ?_) | refine IL.ap (fun h => ?_) (fun h => ?_)); (fail_if_success (focus (simp only [reduceCtorEq] at h)))) | refine WK.cn (fun h => ?_) (fun h => ?_)); all_goals first | (simp only [reduceCtorEq] at h; done) | (simp only [hsA, hsD, hsE, ne_eq] at h; first | done | (exfalso; omega; done) | skip) | skip))
  all_goals try ((first | refine WK.ret ⟨.inr rfl, ?_⟩ | refine ⟨.inl rfl, ?_⟩ | refine ⟨.inl trivial, ?_⟩); refine Fin.o ?_ ?_ (h1 := by first | rfl | (simp only [go_sem, show Tryz.f16.results.toList = [.cell 2 39, .tmp 3] from rfl, reduceIte] <;> rfl)); rotate_left 1; (focus (first | rfl | skip)); all_goals try with_reducible rfl)
  all_goals rfl
theorem read_bad (b : List UInt8) (h1 : ¬ b.length < 11) (h2 : b.length ≤ 1048576) (h3 : ¬ (b.take 3 = [67, 80, 1] ∧ lenW b = b.length)) : SCall Tryz.prog 16 [.tr b.length (bcells b)] (errIV 30) [.tr b.length (bcells b)] := by
  have gb : ∀ j, j < b.length → (bcells b)[j]? = some (.v (.int .u8 ((b.getD j 0).toNat : Int))) := fun j hj => by
    have h := bcells_get (List.getElem?_eq_getElem hj)
    rw [h]; simp [List.getD, hj]
  have b0 := gb 0 (by omega)
  have b1 := gb 1 (by omega)
  have b2 := gb 2 (by omega)
  have b3 := gb 3 (by omega)
  have b4 := gb 4 (by omega)
  have b5 := gb 5 (by omega)
  have b6 := gb 6 (by omega)
  have hne : bcells b ≠ [] := by
    intro h; rw [h] at b3; simp at b3
  have ht := take3 b h1
  have hL : lenW b = (b.getD 3 0).toNat * 16777216 + (b.getD 4 0).toNat * 65536 + (b.getD 5 0).toNat * 256 + (b.getD 6 0).toNat := rfl
  rw [ht, hL] at h3
  have l3 := (b.getD 3 0).toNat_lt
  have l4 := (b.getD 4 0).toNat_lt
  have l5 := (b.getD 5 0).toNat_lt
  have l6 := (b.getD 6 0).toNat_lt
  clear ht hL gb
  generalize (b.getD 0 0).toNat = x0 at *
  generalize (b.getD 1 0).toNat = x1 at *
  generalize (b.getD 2 0).toNat = x2 at *
  generalize (b.getD 3 0).toNat = x3 at *
  generalize (b.getD 4 0).toNat = x4 at *
  generalize (b.getD 5 0).toNat = x5 at *
  generalize (b.getD 6 0).toNat = x6 at *
  unfold errIV
  refine SCall.of_body' (TT := TT) (fun _ => false) [false] ttok Tryz.func16 rfl (Nat.le_of_ble_eq_true rfl) rfl fun fx hfx => WK.top ?_
  simp only [impl, imp, argT, List.append_nil, List.map_nil, List.nil_append, show Tryz.f16.ntmps = 76 from rfl, Nat.zero_add, Nat.reduceAdd]
  have FX := And.intro b0 (And.intro b1 (And.intro b2 (And.intro b3 (And.intro b4 (And.intro b5 b6)))))
  repeat' (first | refine WK.seq ?_ | refine WK.reg ?_ | refine IL.nil ?_ | refine WK.skip ?_ | refine WK.drawnS (id := 5) mixed [] [] [] [] (by decide +kernel) ?_ | refine WK.drawnS (id := 9) mixed [] [1] [0, 0, 1, 0, 0, 1] [0, 0, 1, 1, 1, 1] (by decide +kernel) ?_ | refine DW.nil ?_ | (with_reducible refine IL.wr ?_ ?_; focus exact cW) | (with_reducible refine DW.wr ?_ ?_; focus exact cW) | refine IL.sgF ttok ?_ | refine IL.nn ?_ | refine DW.reF ttok ?_ | refine DW.rmF ttok ?_ | refine DW.cSF ttok ent48 [.bor] true ?_ (hS := by exact hse) | refine IL.cSF ttok ent50 [.bor] false ?_ (hS := by exact hbo) | ((first | ((first | refine IL.ag (fun h => ?_) (fun h => ?_) | refine IL.ap (fun h => ?_) (fun h => ?_)); (fail_if_success (focus (simp only [reduceCtorEq] at h)))) | refine WK.cn (fun h => ?_) (fun h => ?_)); all_goals first | (simp only [reduceCtorEq] at h; done) | (simp only [hsA, hsD, hsE, ne_eq] at h; first | done | (exfalso; omega; done) | skip) | skip))
  all_goals try ((first | refine WK.ret ⟨.inr rfl, ?_⟩ | refine ⟨.inl rfl, ?_⟩ | refine ⟨.inl trivial, ?_⟩); refine Fin.o ?_ ?_ (h1 := by first | rfl | (simp only [go_sem, show Tryz.f16.results.toList = [.cell 2 39, .tmp 3] from rfl, reduceIte] <;> rfl)); rotate_left 1; (focus (first | rfl | skip)); all_goals try with_reducible rfl)
  all_goals rfl
theorem read_framed (b : List UInt8) (h1 : ¬ b.length < 11) (h2 : b.length ≤ 1048576) (ht : b.take 3 = [67, 80, 1]) (hl : lenW b = b.length) (R : IV)
    (hR : isSealed b = true → (∃ e, R = errIV e) ∨ ∃ (od : List Vc.Ve) (tv : TxV), R = .tup [.ago (enL (.own 102 od.length true (encs Vc.veC od)) tv.r tv.s tv.c tv.u (.own 71 tv.ops.length false (encs opC tv.ops))), .v (.int .i64 0)])
    (hbo : isSealed b = true → SCall Tryz.prog 50 [.tr (b.length - 11) (bcells ((b.take (b.length - 4)).drop 7))] R [.tr (b.length - 11) (bcells ((b.take (b.length - 4)).drop 7))]) :
    SCall Tryz.prog 16 [.tr b.length (bcells b)] (if isSealed b then R else errIV 31) [.tr b.length (bcells b)] := by
  have gb : ∀ j, j < b.length → (bcells b)[j]? = some (.v (.int .u8 ((b.getD j 0).toNat : Int))) := fun j hj => by
    have h := bcells_get (List.getElem?_eq_getElem hj)
    rw [h]; simp [List.getD, hj]
  have b0 := gb 0 (by omega)
  have b1 := gb 1 (by omega)
  have b2 := gb 2 (by omega)
  have b3 := gb 3 (by omega)
  have b4 := gb 4 (by omega)
  have b5 := gb 5 (by omega)
  have b6 := gb 6 (by omega)
  have hne : bcells b ≠ [] := by
    intro h; rw [h] at b3; simp at b3
  have ht' := (take3 b h1).1 ht
  have hL : lenW b = (b.getD 3 0).toNat * 16777216 + (b.getD 4 0).toNat * 65536 + (b.getD 5 0).toNat * 256 + (b.getD 6 0).toNat := rfl
  rw [hL] at hl
  have l3 := (b.getD 3 0).toNat_lt
  have l4 := (b.getD 4 0).toNat_lt
  have l5 := (b.getD 5 0).toNat_lt
  have l6 := (b.getD 6 0).toNat_lt
  have hsl := sealed_iff b (by omega)
  rw [ht'.1] at b0
  rw [ht'.2.1] at b1
  rw [ht'.2.2] at b2
  clear hL gb ht ht'
  generalize (b.getD 3 0).toNat = x3 at *
  generalize (b.getD 4 0).toNat = x4 at *
  generalize (b.getD 5 0).toNat = x5 at *
  generalize (b.getD 6 0).toNat = x6 at *
  obtain ⟨n, hn⟩ : ∃ n, b.length = n + 4 := ⟨b.length - 4, by omega⟩
  have e4 : b.length - 4 = n := by omega
  have e5 : IntKind.i64.wrap ((b.length : Int) - 4) = (n : Int) := by rw [wrap_i64 (by omega) (by omega)]; omega
  rw [e4] at hbo hsl
  have hcl : (b.take n).length = n := by rw [List.length_take]; omega
  have htt : (b.take n).take n = b.take n := by rw [List.take_take, Nat.min_self]
  have hse := refSeal_call (b.take n) n hcl.symm (by omega)
  rw [refSeal_eq] at hse
  have hkl : (sealB (b.take n)).length = n + 4 := by rw [(seal_sealed _).2.2, hcl]
  by_cases hS : isSealed b = true
  · rw [if_pos hS]
    have hbo := hbo hS
    have hR := hR hS
    have hsb := hsl.1 hS
    rw [hsb] at hse
    clear hsl
    rw [← hn] at hse
    clear hkl hsb
    have htk : ((b.take n).drop 7).take (b.length - 11) = (b.take n).drop 7 := List.take_of_length_le (by rw [List.length_drop]; omega)
    have hsub : n - 7 = b.length - 11 := by omega
    rcases hR with ⟨e, rfl⟩ | ⟨od, tv, rfl⟩
    · unfold errIV at hbo ⊢
      refine SCall.of_body' (TT := TT) (fun _ => false) [false] ttok Tryz.func16 rfl (Nat.le_of_ble_eq_true rfl) rfl fun fx hfx => WK.top ?_
      simp only [impl, imp, argT, List.append_nil, List.map_nil, List.nil_append, show Tryz.f16.ntmps = 76 from rfl, Nat.zero_add, Nat.reduceAdd]
      have FX := And.intro b0 (And.intro b1 (And.intro b2 (And.intro b3 (And.intro b4 (And.intro b5 (And.intro b6 (And.intro htk (And.intro hsub (And.intro e5 (And.intro htt hcl))))))))))
      repeat' (first | refine WK.seq ?_ | refine WK.reg ?_ | refine IL.nil ?_ | refine WK.skip ?_ | refine WK.drawnS (id := 5) mixed [] [] [] [] (by decide +kernel) ?_ | refine WK.drawnS (id := 9) mixed [] [1] [0, 0, 1, 0, 0, 1] [0, 0, 1, 1, 1, 1] (by decide +kernel) ?_ | refine DW.nil ?_ | (with_reducible refine IL.wr ?_ ?_; focus exact cW) | (with_reducible refine DW.wr ?_ ?_; focus exact cW) | refine IL.sgF ttok ?_ | refine IL.nn ?_ | refine DW.reF ttok ?_ | refine DW.rmF ttok ?_ | refine DW.cSF ttok ent48 [.bor] true ?_ (hS := by exact hse) | refine IL.cSF ttok ent50 [.bor] false ?_ (hS := by exact hbo) | ((first | ((first | refine IL.ag (fun h => ?_) (fun h => ?_) | refine IL.ap (fun h => ?_) (fun h => ?_)); (fail_if_success (focus (simp only [reduceCtorEq] at h)))) | refine WK.cn (fun h => ?_) (fun h => ?_)); all_goals first | (simp only [reduceCtorEq] at h; done) | (simp only [hsA, hsD, hsE, ne_eq] at h; first | done | (exfalso; omega; done) | skip) | skip))
      all_goals try ((first | refine WK.ret ⟨.inr rfl, ?_⟩ | refine ⟨.inl rfl, ?_⟩ | refine ⟨.inl trivial, ?_⟩); refine Fin.o ?_ ?_ (h1 := by first | rfl | (simp only [go_sem, show Tryz.f16.results.toList = [.cell 2 39, .tmp 3] from rfl, reduceIte] <;> rfl)); rotate_left 1; (focus (first | rfl | skip)); all_goals try with_reducible rfl)
      all_goals rfl
    · refine SCall.of_body' (TT := TT) (fun _ => false) [false] ttok Tryz.func16 rfl (Nat.le_of_ble_eq_true rfl) rfl fun fx hfx => WK.top ?_
      simp only [impl, imp, argT, List.append_nil, List.map_nil, List.nil_append, show Tryz.f16.ntmps = 76 from rfl, Nat.zero_add, Nat.reduceAdd]
      have FX := And.intro b0 (And.intro b1 (And.intro b2 (And.intro b3 (And.intro b4 (And.intro b5 (And.intro b6 (And.intro htk (And.intro hsub (And.intro e5 (And.intro htt hcl))))))))))
      repeat' (first | refine WK.seq ?_ | refine WK.reg ?_ | refine IL.nil ?_ | refine WK.skip ?_ | refine WK.drawnS (id := 5) mixed [] [] [] [] (by decide +kernel) ?_ | refine WK.drawnS (id := 9) mixed [] [1] [0, 0, 1, 0, 0, 1] [0, 0, 1, 1, 1, 1] (by decide +kernel) ?_ | refine DW.nil ?_ | (with_reducible refine IL.wr ?_ ?_; focus exact cW) | (with_reducible refine DW.wr ?_ ?_; focus exact cW) | refine IL.sgF ttok ?_ | refine IL.nn ?_ | refine DW.reF ttok ?_ | refine DW.rmF ttok ?_ | refine DW.cSF ttok ent48 [.bor] true ?_ (hS := by exact hse) | refine IL.cSF ttok ent50 [.bor] false ?_ (hS := by exact hbo) | ((first | ((first | refine IL.ag (fun h => ?_) (fun h => ?_) | refine IL.ap (fun h => ?_) (fun h => ?_)); (fail_if_success (focus (simp only [reduceCtorEq] at h)))) | refine WK.cn (fun h => ?_) (fun h => ?_)); all_goals first | (simp only [reduceCtorEq] at h; done) | (simp only [hsA, hsD, hsE, ne_eq] at h; first | done | (exfalso; omega; done) | skip) | skip))
      all_goals try ((first | refine WK.ret ⟨.inr rfl, ?_⟩ | refine ⟨.inl rfl, ?_⟩ | refine ⟨.inl trivial, ?_⟩); refine Fin.o ?_ ?_ (h1 := by first | rfl | (simp only [go_sem, show Tryz.f16.results.toList = [.cell 2 39, .tmp 3] from rfl, reduceIte] <;> rfl)); rotate_left 1; (focus (first | rfl | skip)); all_goals try with_reducible rfl)
      all_goals skip
  · rw [if_neg hS]
    have hsb : ¬ sealB (b.take n) = b := fun h => hS (hsl.2 h)
    clear hsl hbo hR
    rw [← hn] at hse hkl
    generalize sealB (b.take n) = k at *
    have hkt : k.take b.length = k := List.take_of_length_le (by omega)
    have hkb : (k == b) = false := beq_eq_false_iff_ne.2 hsb
    unfold errIV
    refine SCall.of_body' (TT := TT) (fun _ => false) [false] ttok Tryz.func16 rfl (Nat.le_of_ble_eq_true rfl) rfl fun fx hfx => WK.top ?_
    simp only [impl, imp, argT, List.append_nil, List.map_nil, List.nil_append, show Tryz.f16.ntmps = 76 from rfl, Nat.zero_add, Nat.reduceAdd]
    have FX := And.intro b0 (And.intro b1 (And.intro b2 (And.intro b3 (And.intro b4 (And.intro b5 (And.intro b6 (And.intro e5 (And.intro htt (And.intro hcl (And.intro hkt hkb))))))))))
    repeat' (first | refine WK.seq ?_ | refine WK.reg ?_ | refine IL.nil ?_ | refine WK.skip ?_ | refine WK.drawnS (id := 5) mixed [] [] [] [] (by decide +kernel) ?_ | refine WK.drawnS (id := 9) mixed [] [1] [0, 0, 1, 0, 0, 1] [0, 0, 1, 1, 1, 1] (by decide +kernel) ?_ | refine DW.nil ?_ | (with_reducible refine IL.wr ?_ ?_; focus exact cW) | (with_reducible refine DW.wr ?_ ?_; focus exact cW) | refine IL.sgF ttok ?_ | refine IL.nn ?_ | refine DW.reF ttok ?_ | refine DW.rmF ttok ?_ | refine DW.cSF ttok ent48 [.bor] true ?_ (hS := by exact hse) | refine IL.cSF ttok ent50 [.bor] false ?_ (hS := by exact hbo) | ((first | ((first | refine IL.ag (fun h => ?_) (fun h => ?_) | refine IL.ap (fun h => ?_) (fun h => ?_)); (fail_if_success (focus (simp only [reduceCtorEq] at h)))) | refine WK.cn (fun h => ?_) (fun h => ?_)); all_goals first | (simp only [reduceCtorEq] at h; done) | (simp only [hsA, hsD, hsE, ne_eq] at h; first | done | (exfalso; omega; done) | skip) | skip))
    all_goals try ((first | refine WK.ret ⟨.inr rfl, ?_⟩ | refine ⟨.inl rfl, ?_⟩ | refine ⟨.inl trivial, ?_⟩); refine Fin.o ?_ ?_ (h1 := by first | rfl | (simp only [go_sem, show Tryz.f16.results.toList = [.cell 2 39, .tmp 3] from rfl, reduceIte] <;> rfl)); rotate_left 1; (focus (first | rfl | skip)); all_goals try with_reducible rfl)
    all_goals rfl
end Go.Proofs.YtclhjcbnpdlgbaaGreatDoor
/- package wire, plain: what is read lies within bounds, and is read from just the document's bytes. -/
namespace Go.Proofs.YtclhjcbnpdlgbaaGreatDoor
open Go Go.Lift
set_option maxHeartbeats 4000000
set_option linter.unusedSimpArgs false
set_option linter.unusedVariables false

theorem rNum_lim (l : List UInt8) (p : Nat) (e : Int) (lim : Nat) : (rNum l p e lim).1 ≤ lim := by
  unfold rNum
  split
  · split
    · exact (readN_le lim 9 (l.drop p) 0 0).1
    · exact Nat.zero_le _
  · exact Nat.zero_le _
theorem rText_lim (l : List UInt8) (p : Nat) (e : Int) (lim : Nat) : (rText l p e lim).1.length ≤ lim := by
  have h := rNum_lim l p e lim
  unfold rText
  split
  · split
    · exact Nat.zero_le _
    · simp only [List.length_take]; omega
  · exact Nat.zero_le _
def sbd (x : Sp) : Prop := (0 ≤ x.1 ∧ x.1 ≤ 65535) ∧ (0 ≤ x.2.1 ∧ x.2.1 ≤ 268435456) ∧ 0 ≤ x.2.2 ∧ x.2.2 ≤ 1024
theorem rSp_bd (l : List UInt8) (p : Nat) (e : Int) : sbd (rSp l p e).1 := by
  unfold rSp sbd
  have h1 := rNum_lim l p e 65535
  have h2 := rNum_lim l (rNum l p e 65535).2.1 (rNum l p e 65535).2.2 268435456
  have h3 := rNum_lim l (rNum l (rNum l p e 65535).2.1 (rNum l p e 65535).2.2 268435456).2.1 (rNum l (rNum l p e 65535).2.1 (rNum l p e 65535).2.2 268435456).2.2 1024
  simp only
  omega
theorem getGo_bd (l : List UInt8) : ∀ (n : Nat) (out : List Sp) (p : Nat) (e : Int), (∀ x ∈ out, sbd x) → (getGo l n out p e).1.length ≤ out.length + n ∧ ∀ x ∈ (getGo l n out p e).1, sbd x
  | 0, out, p, e, h => ⟨Nat.le_refl _, h⟩
  | n + 1, out, p, e, h => by
    rw [getGo]
    split
    · have ih := getGo_bd l n (out ++ [(rSp l p e).1]) (rSp l p e).2.1 0 fun x hx => by
        rcases List.mem_append.1 hx with hx | hx
        · exact h x hx
        · rw [List.mem_singleton.1 hx]; exact rSp_bd l p e
      simp only [List.length_append, List.length_cons, List.length_nil] at ih
      exact ⟨by omega, ih.2⟩
    · exact ⟨by simp, by simp⟩
def obd (o : OpV) : Prop := (0 ≤ o.k ∧ o.k ≤ 5) ∧ (0 ≤ o.r ∧ o.r ≤ 65535) ∧ (0 ≤ o.n ∧ o.n ≤ 268435456) ∧ (0 ≤ o.m ∧ o.m ≤ 268435456) ∧ (0 ≤ o.q ∧ o.q ≤ 268435456) ∧ o.t.length ≤ 64 ∧ o.s.length ≤ 1024 ∧ ∀ x ∈ o.s, sbd x
theorem obd_z : obd opZ := by unfold obd opZ; simp
theorem fin3_bd {o : OpV} (h : obd o) (x : Nat × Int) : obd (fin3 o x).1 := by
  unfold fin3; split
  · exact h
  · exact obd_z
theorem r3_bd (l : List UInt8) (p : Nat) (e : Int) : (r3 l p e).1.1 ≤ 65535 ∧ (r3 l p e).1.2.1 ≤ 268435456 ∧ (r3 l p e).1.2.2 ≤ 268435456 := by
  unfold r3
  exact ⟨rNum_lim _ _ _ _, rNum_lim _ _ _ _, rNum_lim _ _ _ _⟩
theorem rOp_bd (l : List UInt8) (p : Nat) (e : Int) : obd (rOp l p e).1 := by
  unfold rOp
  have hk := rNum_lim l p e 5
  have hv : (rOpV (rNum l p e 5).1 (rNum l p e 5).2 l).1.1 ≤ 65535 ∧ (rOpV (rNum l p e 5).1 (rNum l p e 5).2 l).1.2.1 ≤ 268435456 ∧ (rOpV (rNum l p e 5).1 (rNum l p e 5).2 l).1.2.2 ≤ 268435456 := by
    unfold rOpV; split
    · exact r3_bd _ _ _
    · exact ⟨Nat.zero_le _, Nat.zero_le _, Nat.zero_le _⟩
  generalize rOpV (rNum l p e 5).1 (rNum l p e 5).2 l = v at *
  generalize (rNum l p e 5).1 = k at *
  unfold rOpE
  split
  · refine fin3_bd ?_ _
    have := rText_lim l v.2.1 v.2.2 64
    unfold obd; simp only
    exact ⟨by omega, by omega, by omega, by omega, by omega, this, by simp, by simp⟩
  · split
    · refine fin3_bd ?_ _
      have h1 := getGo_bd l (rNum l v.2.1 v.2.2 1024).1 [] (rNum l v.2.1 v.2.2 1024).2.1 (rNum l v.2.1 v.2.2 1024).2.2 (by simp)
      have h2 := rNum_lim l v.2.1 v.2.2 1024
      unfold obd; simp only
      refine ⟨by omega, by omega, by omega, by omega, by omega, by simp, ?_, h1.2⟩
      unfold getS
      have := h1.1
      simp only [List.length_nil] at this
      omega
    · refine fin3_bd ?_ _
      have := rNum_lim l v.2.1 v.2.2 268435456
      unfold obd; simp only
      exact ⟨by omega, by omega, by omega, by omega, by omega, by simp, by simp, by simp⟩
theorem opsGo_bd (l : List UInt8) : ∀ (n : Nat) (out : List OpV) (p : Nat) (e : Int), (∀ x ∈ out, obd x) → (opsGo l n out p e).1.length ≤ out.length + n ∧ ∀ x ∈ (opsGo l n out p e).1, obd x
  | 0, out, p, e, h => ⟨Nat.le_refl _, h⟩
  | n + 1, out, p, e, h => by
    rw [opsGo]
    split
    · have ih := opsGo_bd l n (out ++ [(rOp l p e).1]) (rOp l p e).2.1 0 fun x hx => by
        rcases List.mem_append.1 hx with hx | hx
        · exact h x hx
        · rw [List.mem_singleton.1 hx]; exact rOp_bd l p e
      simp only [List.length_append, List.length_cons, List.length_nil] at ih
      exact ⟨by omega, ih.2⟩
    · exact ⟨by simp, by simp⟩
def tbd (v : TxV) : Prop := (0 ≤ v.r ∧ v.r ≤ 65535) ∧ (0 ≤ v.s ∧ v.s ≤ 268435456) ∧ (0 ≤ v.c ∧ v.c ≤ 1099511627776) ∧ (0 ≤ v.u ∧ v.u ≤ 7) ∧ v.ops.length ≤ 16 ∧ ∀ o ∈ v.ops, obd o
theorem rTx_bd (l : List UInt8) (p : Nat) (e : Int) : tbd (rTx l p e).1 := by
  unfold rTx
  have h1 := rNum_lim l p e 65535
  rcases hx1 : rNum l p e 65535 with ⟨a, p1, e1⟩
  rw [hx1] at h1
  have h2 := rNum_lim l p1 e1 268435456
  simp only
  rcases hx2 : rNum l p1 e1 268435456 with ⟨b, p2, e2⟩
  rw [hx2] at h2
  have h3 := rNum_lim l p2 e2 1099511627776
  simp only
  rcases hx3 : rNum l p2 e2 1099511627776 with ⟨c, p3, e3⟩
  rw [hx3] at h3
  have h4 := rNum_lim l p3 e3 7
  simp only
  rcases hx4 : rNum l p3 e3 7 with ⟨d, p4, e4⟩
  rw [hx4] at h4
  have h5 := rNum_lim l p4 e4 16
  simp only
  rcases hx5 : rNum l p4 e4 16 with ⟨n, p5, e5⟩
  rw [hx5] at h5
  simp only at h1 h2 h3 h4 h5 ⊢
  have h6 := opsGo_bd l n [] p5 e5 (by simp)
  simp only [List.length_nil] at h6
  unfold txF
  split
  · unfold tbd; simp only
    exact ⟨by omega, by omega, by omega, by omega, by omega, h6.2⟩
  · unfold tbd; simp
def dbd (x : Vc.Ve) : Prop := (0 ≤ x.1 ∧ x.1 ≤ 65535) ∧ (0 ≤ x.2 ∧ x.2 ≤ 268435456)
theorem depsGo_bd (l : List UInt8) : ∀ (n : Nat) (out : List Vc.Ve) (p : Nat) (e : Int), p ≤ l.length → (∀ x ∈ out, dbd x) → ((depsGo l n out p e).1.length ≤ out.length + n ∧ ∀ x ∈ (depsGo l n out p e).1, dbd x) ∧ (depsGo l n out p e).2.1 ≤ l.length
  | 0, out, p, e, hp, h => ⟨⟨Nat.le_refl _, h⟩, hp⟩
  | n + 1, out, p, e, hp, h => by
    have h1 := rNum_le l p e 65535 hp
    rcases hx1 : rNum l p e 65535 with ⟨a, p1, e1⟩
    rw [hx1] at h1
    have h2 := rNum_le l p1 e1 268435456 h1.2
    rcases hx2 : rNum l p1 e1 268435456 with ⟨b, p2, e2⟩
    rw [hx2] at h2
    simp only at h1 h2
    rw [depsGo_of hx1 hx2]
    have hn : ∀ x ∈ out ++ [((a : Int), (b : Int))], dbd x := fun x hx => by
      rcases List.mem_append.1 hx with hx | hx
      · exact h x hx
      · rw [List.mem_singleton.1 hx]; unfold dbd; simp only; omega
    split
    · have ih := depsGo_bd l n (out ++ [((a : Int), (b : Int))]) p2 0 h2.2 hn
      simp only [List.length_append, List.length_cons, List.length_nil] at ih
      exact ⟨⟨by omega, ih.1.2⟩, ih.2⟩
    · simp only [List.length_append, List.length_cons, List.length_nil]
      exact ⟨⟨by omega, hn⟩, h2.2⟩
theorem opsGo_pos (l : List UInt8) : ∀ (n : Nat) (out : List OpV) (p : Nat) (e : Int), p ≤ l.length → (opsGo l n out p e).2.1 ≤ l.length
  | 0, out, p, e, hp => hp
  | n + 1, out, p, e, hp => by
    rw [opsGo]
    have hL := rOp_leN l p e hp
    split
    · exact opsGo_pos l n _ _ 0 hL.1
    · exact hL.1
theorem rTx_pos (l : List UInt8) (p : Nat) (e : Int) (hp : p ≤ l.length) : (rTx l p e).2.1 ≤ l.length := by
  have h1 := rNum_le l p e 65535 hp
  rcases hx1 : rNum l p e 65535 with ⟨a, p1, e1⟩
  rw [hx1] at h1
  have h2 := rNum_le l p1 e1 268435456 h1.2
  rcases hx2 : rNum l p1 e1 268435456 with ⟨b, p2, e2⟩
  rw [hx2] at h2
  have h3 := rNum_le l p2 e2 1099511627776 h2.2
  rcases hx3 : rNum l p2 e2 1099511627776 with ⟨c, p3, e3⟩
  rw [hx3] at h3
  have h4 := rNum_le l p3 e3 7 h3.2
  rcases hx4 : rNum l p3 e3 7 with ⟨d, p4, e4⟩
  rw [hx4] at h4
  have h5 := rNum_le l p4 e4 16 h4.2
  rcases hx5 : rNum l p4 e4 16 with ⟨n, p5, e5⟩
  rw [hx5] at h5
  rw [rTx_of hx1 hx2 hx3 hx4 hx5]
  have := opsGo_pos l n [] p5 e5 h5.2
  unfold txF; split <;> exact this

theorem readN_can (lim : Nat) : ∀ (f : Nat) (r : List UInt8) (k acc n k' : Nat), readN lim f r k acc = (n, k', 0) → ∃ m, n = acc + m * 128 ^ k ∧ r = numB m ++ r.drop (numB m).length ∧ k' = k + (numB m).length ∧ (0 < k → 0 < m)
  | 0, r, k, acc, n, k', h => by simp [readN] at h
  | f + 1, [], k, acc, n, k', h => by simp [readN] at h
  | f + 1, c :: r, k, acc, n, k', h => by
    have hc := c.toNat_lt
    rw [readN] at h
    split at h
    · rename_i h1
      obtain ⟨m, rfl, h3, h4, h5⟩ := readN_can lim f r (k + 1) _ n k' h
      have hm := h5 (Nat.succ_pos k)
      have hb : numB (c.toNat % 128 + 128 * m) = c :: numB m := by
        rw [numB_big _ (by omega), show (c.toNat % 128 + 128 * m) % 128 + 128 = c.toNat by omega, show (c.toNat % 128 + 128 * m) / 128 = m by omega, UInt8.ofNat_toNat]
      refine ⟨c.toNat % 128 + 128 * m, ?_, ?_, ?_, fun _ => by omega⟩
      · rw [Nat.pow_succ, Nat.add_mul, Nat.add_assoc]
        congr 2
        rw [Nat.mul_comm (128 ^ k) 128, ← Nat.mul_assoc, Nat.mul_comm m 128]
      · rw [hb, List.length_cons, List.drop_succ_cons, List.cons_append, ← h3]
      · rw [hb, List.length_cons, h4]; omega
    · split at h
      · simp at h
      · split at h
        · simp at h
        · rename_i h1 h2 h3
          simp only [Prod.mk.injEq] at h
          refine ⟨c.toNat, ?_, ?_, ?_, fun hk => by omega⟩
          · rw [← h.1, Nat.mod_eq_of_lt (by omega)]
          · rw [numB_small _ (by omega), UInt8.ofNat_toNat]; rfl
          · rw [numB_small _ (by omega)]; simp only [List.length_cons, List.length_nil]; omega
theorem rN_of {l : List UInt8} {p lim n p' : Nat} {e : Int} (h : rNum l p e lim = (n, p', 0)) : e = 0 ∧ l.drop p = numB n ++ l.drop p' := by
  have he : e = 0 := by
    refine Classical.byContradiction fun he => ?_
    rw [rNum_err l p e lim he] at h
    simp only [Prod.mk.injEq] at h
    exact he h.2.2
  subst he
  refine ⟨rfl, ?_⟩
  unfold rNum at h
  rw [if_pos rfl] at h
  rcases hr : readN lim 9 (l.drop p) 0 0 with ⟨a, b, c⟩
  rw [hr] at h
  simp only at h
  split at h
  · rename_i hc
    subst hc
    obtain ⟨m, h1, h2, h3, _⟩ := readN_can lim 9 (l.drop p) 0 0 a b hr
    simp only [Prod.mk.injEq, and_true] at h
    obtain ⟨rfl, rfl⟩ := h
    have : a = m := by rw [h1]; simp
    subst this
    rw [h3, Nat.zero_add, ← List.drop_drop]
    exact h2
  · simp only [Prod.mk.injEq] at h
    omega
theorem rT_of {l t : List UInt8} {p lim p' : Nat} {e : Int} (h : rText l p e lim = (t, p', 0)) : e = 0 ∧ l.drop p = numB t.length ++ (t ++ l.drop p') := by
  unfold rText at h
  rcases hr : rNum l p e lim with ⟨a, p1, e1⟩
  rw [hr] at h
  simp only at h
  split at h
  · rename_i he
    subst he
    split at h
    · simp at h
    · rename_i hl
      simp only [Prod.mk.injEq, and_true] at h
      obtain ⟨rfl, rfl⟩ := h
      obtain ⟨h1, h2⟩ := rN_of hr
      refine ⟨h1, ?_⟩
      have hlen : (List.take a (List.drop p1 l)).length = a := by simp only [List.length_take, List.length_drop]; omega
      rw [hlen, h2, ← List.drop_drop, List.take_append_drop]
  · rename_i he
    simp only [Prod.mk.injEq] at h
    exact absurd h.2.2 he
theorem rSp_can {l : List UInt8} {p : Nat} {e : Int} (h : (rSp l p e).2.2 = 0) : e = 0 ∧ l.drop p = spB (rSp l p e).1 ++ l.drop (rSp l p e).2.1 := by
  rcases h1 : rNum l p e 65535 with ⟨a, p1, e1⟩
  rcases h2 : rNum l p1 e1 268435456 with ⟨b, p2, e2⟩
  rcases h3 : rNum l p2 e2 1024 with ⟨c, p3, e3⟩
  rw [rSp_of h1 h2 h3] at h ⊢
  simp only at h ⊢
  subst h
  obtain ⟨rfl, g3⟩ := rN_of h3
  obtain ⟨rfl, g2⟩ := rN_of h2
  obtain ⟨rfl, g1⟩ := rN_of h1
  refine ⟨rfl, ?_⟩
  rw [g1, g2, g3]; simp [spB]
theorem getGo_can (l : List UInt8) : ∀ (n : Nat) (out : List Sp) (p : Nat) (e : Int) (s : List Sp) (p' : Nat), getGo l n out p e = (s, p', 0) → e = 0 ∧ ∃ r, s = out ++ r ∧ r.length = n ∧ l.drop p = spsB r ++ l.drop p'
  | 0, out, p, e, s, p', h => by
    simp only [getGo, Prod.mk.injEq] at h
    obtain ⟨rfl, rfl, rfl⟩ := h
    exact ⟨rfl, [], by simp, rfl, by simp [spsB]⟩
  | n + 1, out, p, e, s, p', h => by
    rw [getGo] at h
    split at h
    · rename_i he
      obtain ⟨h1, h2⟩ := rSp_can he
      obtain ⟨_, r, rfl, h4, h5⟩ := getGo_can l n _ _ _ s p' h
      refine ⟨h1, (rSp l p e).1 :: r, by simp, by simp [h4], ?_⟩
      rw [h2, h5]; simp [spsB]
    · rename_i he
      have : (rSp l p e).2.2 = 0 := by rw [Prod.mk.injEq] at h; rw [h.2]
      exact absurd this he
theorem getS_can {l : List UInt8} {p : Nat} {e : Int} (h : (getS l p e).2.2 = 0) : e = 0 ∧ l.drop p = numB (getS l p e).1.length ++ spsB (getS l p e).1 ++ l.drop (getS l p e).2.1 := by
  unfold getS at h ⊢
  rcases h1 : rNum l p e 1024 with ⟨a, p1, e1⟩
  rw [h1] at h
  simp only at h ⊢
  rcases h2 : getGo l a [] p1 e1 with ⟨s, p2, e2⟩
  rw [h2] at h
  simp only at h ⊢
  subst h
  obtain ⟨rfl, r, h3, h4, h5⟩ := getGo_can l a [] p1 e1 s p2 h2
  simp only [List.nil_append] at h3
  subst h3
  obtain ⟨rfl, h6⟩ := rN_of h1
  refine ⟨rfl, ?_⟩
  rw [h6, h5, h4]; simp
theorem fin3_zero {o : OpV} {x : Nat × Int} (h : (fin3 o x).2.2 = 0) : x.2 = 0 ∧ fin3 o x = (o, x) := by
  unfold fin3 at h ⊢
  split at h
  · rename_i he
    exact ⟨he, by rw [if_pos he]⟩
  · rename_i he
    exact absurd h he
theorem r3_can {l : List UInt8} {p : Nat} {e : Int} (h : (r3 l p e).2.2 = 0) : e = 0 ∧ l.drop p = numB (r3 l p e).1.1 ++ (numB (r3 l p e).1.2.1 ++ (numB (r3 l p e).1.2.2 ++ l.drop (r3 l p e).2.1)) := by
  rcases h1 : rNum l p e 65535 with ⟨a, p1, e1⟩
  rcases h2 : rNum l p1 e1 268435456 with ⟨b, p2, e2⟩
  rcases h3 : rNum l p2 e2 268435456 with ⟨c, p3, e3⟩
  rw [r3_of h1 h2 h3] at h ⊢
  simp only at h ⊢
  subst h
  obtain ⟨rfl, g3⟩ := rN_of h3
  obtain ⟨rfl, g2⟩ := rN_of h2
  obtain ⟨rfl, g1⟩ := rN_of h1
  exact ⟨rfl, by rw [g1, g2, g3]⟩
theorem rOp_can {l : List UInt8} {p : Nat} {e : Int} (h : (rOp l p e).2.2 = 0) : e = 0 ∧ l.drop p = opBV (rOp l p e).1 ++ l.drop (rOp l p e).2.1 := by
  unfold rOp at h ⊢
  rcases hk : rNum l p e 5 with ⟨k, p1, e1⟩
  rw [hk] at h
  simp only at h ⊢
  by_cases k1 : k = 1
  · subst k1
    have hv : rOpV 1 (p1, e1) l = r3 l p1 e1 := by unfold rOpV; rw [if_pos (.inl rfl)]
    rw [hv] at h ⊢
    unfold rOpE at h ⊢
    rw [if_pos rfl] at h ⊢
    obtain ⟨h1, h2⟩ := fin3_zero h
    rw [h2]
    rcases ht : rText l (r3 l p1 e1).2.1 (r3 l p1 e1).2.2 64 with ⟨t, p2, e2⟩
    rw [ht] at h1
    simp only at h1 ⊢
    subst h1
    obtain ⟨g1, g2⟩ := rT_of ht
    obtain ⟨rfl, g3⟩ := r3_can g1
    obtain ⟨rfl, g4⟩ := rN_of hk
    refine ⟨rfl, ?_⟩
    rw [g4, g3, g2]
    simp [opBV, opB]
  · by_cases k2 : k = 2
    · subst k2
      have hv : rOpV 2 (p1, e1) l = ((0, 0, 0), p1, e1) := by unfold rOpV; rw [if_neg (by decide)]
      rw [hv] at h ⊢
      unfold rOpE at h ⊢
      rw [if_neg (by decide), if_pos (.inl rfl)] at h ⊢
      obtain ⟨h1, h2⟩ := fin3_zero h
      rw [h2]
      simp only at h1 ⊢
      obtain ⟨rfl, g2⟩ := getS_can h1
      obtain ⟨rfl, g4⟩ := rN_of hk
      refine ⟨rfl, ?_⟩
      rw [g4, g2]
      simp [opBV, opB]
    · by_cases k3 : k = 3
      · subst k3
        have hv : rOpV 3 (p1, e1) l = r3 l p1 e1 := by unfold rOpV; rw [if_pos (.inr rfl)]
        rw [hv] at h ⊢
        unfold rOpE at h ⊢
        rw [if_neg (by decide), if_pos (.inr rfl)] at h ⊢
        obtain ⟨h1, h2⟩ := fin3_zero h
        rw [h2]
        simp only at h1 ⊢
        obtain ⟨g1, g2⟩ := getS_can h1
        obtain ⟨rfl, g3⟩ := r3_can g1
        obtain ⟨rfl, g4⟩ := rN_of hk
        refine ⟨rfl, ?_⟩
        rw [g4, g3, g2]
        simp [opBV, opB]
      · have hv : rOpV k (p1, e1) l = ((0, 0, 0), p1, e1) := by unfold rOpV; rw [if_neg (by omega)]
        rw [hv] at h ⊢
        unfold rOpE at h ⊢
        rw [if_neg k1, if_neg (by omega)] at h ⊢
        obtain ⟨h1, h2⟩ := fin3_zero h
        rw [h2]
        simp only at h1 ⊢
        rcases hq : rNum l p1 e1 268435456 with ⟨q, p2, e2⟩
        rw [hq] at h1
        simp only at h1 ⊢
        subst h1
        obtain ⟨rfl, g2⟩ := rN_of hq
        obtain ⟨rfl, g4⟩ := rN_of hk
        refine ⟨rfl, ?_⟩
        rw [g4, g2]
        simp [opBV, opB, k1, k2, k3]
theorem opsGo_can (l : List UInt8) : ∀ (n : Nat) (out : List OpV) (p : Nat) (e : Int) (s : List OpV) (p' : Nat), opsGo l n out p e = (s, p', 0) → e = 0 ∧ ∃ r, s = out ++ r ∧ r.length = n ∧ l.drop p = opsB r ++ l.drop p'
  | 0, out, p, e, s, p', h => by
    simp only [opsGo, Prod.mk.injEq] at h
    obtain ⟨rfl, rfl, rfl⟩ := h
    exact ⟨rfl, [], by simp, rfl, by simp [opsB]⟩
  | n + 1, out, p, e, s, p', h => by
    rw [opsGo] at h
    split at h
    · rename_i he
      obtain ⟨h1, h2⟩ := rOp_can he
      obtain ⟨_, r, rfl, h4, h5⟩ := opsGo_can l n _ _ _ s p' h
      refine ⟨h1, (rOp l p e).1 :: r, by simp, by simp [h4], ?_⟩
      rw [h2, h5]; simp [opsB]
    · rename_i he
      have : (rOp l p e).2.2 = 0 := by rw [Prod.mk.injEq] at h; rw [h.2]
      exact absurd this he
theorem depsGo_can (l : List UInt8) : ∀ (n : Nat) (out : List Vc.Ve) (p : Nat) (e : Int) (s : List Vc.Ve) (p' : Nat), depsGo l n out p e = (s, p', 0) → e = 0 ∧ ∃ r, s = out ++ r ∧ r.length = n ∧ l.drop p = depsB r ++ l.drop p'
  | 0, out, p, e, s, p', h => by
    simp only [depsGo, Prod.mk.injEq] at h
    obtain ⟨rfl, rfl, rfl⟩ := h
    exact ⟨rfl, [], by simp, rfl, by simp [depsB]⟩
  | n + 1, out, p, e, s, p', h => by
    rcases hx1 : rNum l p e 65535 with ⟨a, p1, e1⟩
    rcases hx2 : rNum l p1 e1 268435456 with ⟨b, p2, e2⟩
    rw [depsGo_of hx1 hx2] at h
    split at h
    · rename_i he
      subst he
      obtain ⟨_, r, rfl, h4, h5⟩ := depsGo_can l n _ _ _ s p' h
      obtain ⟨rfl, g2⟩ := rN_of hx2
      obtain ⟨rfl, g1⟩ := rN_of hx1
      refine ⟨rfl, ((a : Int), (b : Int)) :: r, by simp, by simp [h4], ?_⟩
      rw [g1, g2, h5]; simp [depsB, depB]
    · rename_i he
      simp only [Prod.mk.injEq] at h
      exact absurd h.2.2 he
theorem rTx_can {l : List UInt8} {p q : Nat} {e : Int} {v : TxV} (h : rTx l p e = (v, q, 0)) : e = 0 ∧ l.drop p = hdB v.r.toNat v.s.toNat v.c.toNat v.u.toNat v.ops.length ++ opsB v.ops ++ l.drop q := by
  rcases hx1 : rNum l p e 65535 with ⟨a, p1, e1⟩
  rcases hx2 : rNum l p1 e1 268435456 with ⟨b, p2, e2⟩
  rcases hx3 : rNum l p2 e2 1099511627776 with ⟨c, p3, e3⟩
  rcases hx4 : rNum l p3 e3 7 with ⟨d, p4, e4⟩
  rcases hx5 : rNum l p4 e4 16 with ⟨n, p5, e5⟩
  rw [rTx_of hx1 hx2 hx3 hx4 hx5] at h
  rcases hG : opsGo l n [] p5 e5 with ⟨s, p6, e6⟩
  rw [hG] at h
  unfold txF at h
  simp only at h
  split at h
  · rename_i he
    subst he
    simp only [Prod.mk.injEq, and_true] at h
    obtain ⟨rfl, rfl⟩ := h
    obtain ⟨rfl, r, h3, h4, h5⟩ := opsGo_can l n [] p5 e5 s p6 hG
    simp only [List.nil_append] at h3
    subst h3
    obtain ⟨rfl, g5⟩ := rN_of hx5
    obtain ⟨rfl, g4⟩ := rN_of hx4
    obtain ⟨rfl, g3⟩ := rN_of hx3
    obtain ⟨rfl, g2⟩ := rN_of hx2
    obtain ⟨rfl, g1⟩ := rN_of hx1
    refine ⟨rfl, ?_⟩
    rw [g1, g2, g3, g4, g5, h5, ← h4]; simp [hdB]
  · rename_i he
    simp only [Prod.mk.injEq] at h
    exact absurd h.2.2 he
theorem body_can {c : List UInt8} {n p0 pd q : Nat} {e0 ed : Int} {od : List Vc.Ve} {tv : TxV} (hn : rNum c 0 0 65536 = (n, p0, e0)) (hG : depsGo c n [] p0 e0 = (od, pd, ed)) (hT : rTx c pd ed = (tv, q, 0)) (hq : ¬ q < c.length) :
    bodyB od tv.r.toNat tv.s.toNat tv.c.toNat tv.u.toNat tv.ops = c := by
  obtain ⟨rfl, h1⟩ := rTx_can hT
  obtain ⟨rfl, r, h2, h3, h4⟩ := depsGo_can c n [] p0 e0 od pd hG
  simp only [List.nil_append] at h2
  subst h2
  obtain ⟨_, h5⟩ := rN_of hn
  rw [List.drop_zero, h4, h1, List.drop_eq_nil_of_le (by omega), List.append_nil] at h5
  unfold bodyB
  rw [h5, h3]; simp
theorem be4_word (a b c d : UInt8) : be4 ((word4 a.toNat b.toNat c.toNat d.toNat : Nat) : Int) = [a, b, c, d] := by
  have ha := a.toNat_lt
  have hb := b.toNat_lt
  have hc := c.toNat_lt
  have hd := d.toNat_lt
  have h8 : ∀ (x : UInt8) (N : Int), N % 256 = (x.toNat : Int) → b8 N = x := fun x N h => by
    have e : IntKind.u8.wrap N = N % 256 := by rw [IntKind.wrap_u8]
    rw [b8, e, h]; simp
  rw [← be4_ref _ (by unfold word4; omega)]
  unfold word4
  simp only [List.cons.injEq, and_true]
  refine ⟨h8 _ _ ?_, h8 _ _ ?_, h8 _ _ ?_, h8 _ _ ?_⟩
  · rw [Int.tdiv_eq_ediv_of_nonneg (by omega)]; omega
  · rw [Int.tdiv_eq_ediv_of_nonneg (by omega), Int.tmod_eq_emod_of_nonneg (by omega)]; omega
  · rw [Int.tdiv_eq_ediv_of_nonneg (by omega), Int.tmod_eq_emod_of_nonneg (by omega)]; omega
  · rw [Int.tmod_eq_emod_of_nonneg (by omega)]; omega
theorem framed (b : List UInt8) (h1 : ¬ b.length < 11) (ht : b.take 3 = [67, 80, 1]) (hl : lenW b = b.length) : [67, 80, 1] ++ be4 (((b.take (b.length - 4)).drop 7).length + 11 : Nat) ++ (b.take (b.length - 4)).drop 7 = b.take (b.length - 4) := by
  have hlen : ((b.take (b.length - 4)).drop 7).length + 11 = b.length := by simp only [List.length_drop, List.length_take]; omega
  rw [hlen]
  obtain ⟨x0, x1, x2, x3, x4, x5, x6, r, hr⟩ : ∃ x0 x1 x2 x3 x4 x5 x6 r, b = x0 :: x1 :: x2 :: x3 :: x4 :: x5 :: x6 :: r := by
    clear ht hl hlen
    rcases b with _ | ⟨x0, _ | ⟨x1, _ | ⟨x2, _ | ⟨x3, _ | ⟨x4, _ | ⟨x5, _ | ⟨x6, r⟩⟩⟩⟩⟩⟩⟩
    all_goals first | exact ⟨_, _, _, _, _, _, _, _, rfl⟩ | (exfalso; simp only [List.length_cons, List.length_nil] at h1; omega)
  have e : lenW b = word4 x3.toNat x4.toNat x5.toNat x6.toNat := by rw [hr]; rfl
  have eB : be4 ((b.length : Nat) : Int) = [x3, x4, x5, x6] := by rw [← hl, e, be4_word]
  obtain ⟨k, hk⟩ : ∃ k, b.length - 4 = k + 7 := ⟨b.length - 11, by omega⟩
  rw [eB, hk]
  clear hl hk eB e hlen h1
  subst hr
  simp only [List.take_succ_cons, List.drop_succ_cons, List.drop_zero, List.take_zero, List.cons.injEq, and_true] at ht ⊢
  obtain ⟨rfl, rfl, rfl⟩ := ht
  rfl
end Go.Proofs.YtclhjcbnpdlgbaaGreatDoor
/- package copyistlaw10: same, anchor; wire: Encode of what can't be. -/
namespace Go.Proofs.YtclhjcbnpdlgbaaGreatDoor
open Go Go.Lift
set_option maxHeartbeats 4000000
set_option linter.unusedSimpArgs false
set_option linter.unusedVariables false
attribute [local irreducible] WK IL IP IG IW DW

theorem same10_call (d : List Vc.Ve) (r s c u : Int) (ops : List OpV) (hd : d.length * 8 ≤ 140737488355328) (hl : ops.length * 72 ≤ 140737488355328) (h16 : ∀ o ∈ ops, o.s.length * 16 ≤ 140737488355328) :
    SCall Tryz.prog 15 [.agg (enT d r s c u ops), .agg (enT d r s c u ops)] (.v (.bool true)) [.agg (enT d r s c u ops), .agg (enT d r s c u ops)] := by
  refine SCall.of_body' (TT := TT) (fun _ => false) [false, false] ttok Tryz.func15 rfl (Nat.le_of_ble_eq_true rfl) rfl fun fx hfx => WK.top ?_
  simp only [impl, imp, argT, List.append_nil, List.map_nil, List.nil_append, show Tryz.f15.ntmps = 42 from rfl, Nat.zero_add, Nat.reduceAdd]
  repeat' (first | refine WK.seq ?_ | refine WK.reg ?_ | refine IL.nil ?_ | refine WK.skip ?_ | refine WK.block ?_ | refine WK.exit_here ?_ | refine WK.e1 ?_ | refine WK.e2 ?_ | refine WK.drawnS (id := 7) mixed [] [] [] [] (by decide +kernel) ?_ | refine DW.nil ?_ | (with_reducible refine IL.wr ?_ ?_; focus exact cW) | (with_reducible refine DW.wr ?_ ?_; focus exact cW) | refine IL.sg ttok ?_ | refine IL.nn ?_ | refine DW.re ttok ?_ | refine DW.rm ttok ?_ | refine IL.cS ttok ent9 [.bor] false ?_ (hS := by refine ref10_frz _ _ _ _ _ _ ?_ ?_ ?_ <;> exact cO) | refine IL.cS ttok ent49 [.bor, .bor] true ?_ (hS := by refine sameTxn_call _ _ _ _ _ _ _ ?_ ?_ ?_ ?_ <;> exact cO) | ((first | ((first | refine IL.ag (fun h => ?_) (fun h => ?_) | refine IL.ap (fun h => ?_) (fun h => ?_)); (fail_if_success (focus (simp only [reduceCtorEq] at h)))) | refine WK.cn (fun h => ?_) (fun h => ?_)); all_goals first | (simp only [reduceCtorEq] at h; done) | (simp only [hsA, hsD, hsE, ne_eq] at h; first | done | (exfalso; omega; done) | skip) | skip))
  refine WK.forS d.length (fun k => True) (fun k => ⟨42, [(3, .ptr 1 0 0), (5, .ptr 2 0 0), (26, .v (.int .i64 d.length)), (27, .v (.int .i64 k))], [some ⟨false, 0, 1, false, enT d r s c u ops, 0, false⟩, some ⟨false, 0, 1, false, enT d r s c u ops, 0, false⟩, some ⟨false, 0, 1, false, enT d r s c u ops, 0, false⟩]⟩) ⟨trivial, ?_⟩ (fun k hk _ => ?_) (fun _ => ?_)
  · (refine Weak.renS [0, 1, 4] hfx rfl ?_ ?_ rfl <;> (simp only [go_sem, reduceIte, exists_eq_left', exists_eq_left, Blk.mk.injEq, enT, enL] <;> (try and_intros) <;> first | rfl | omega))
  · have hx : d[k]? = some d[k] := List.getElem?_eq_getElem hk
    have hle : k * 2 + 2 ≤ d.length * 2 := by omega
    have hne : encs Vc.veC d ≠ [] := encs_ne Vc.veC_length (by decide) hx
    have hat : ((encs Vc.veC d).drop (k * 2)).take 2 = [.v (.int .u16 d[k].1), .v (.int .u32 d[k].2)] := encs_at Vc.veC_length hx
    generalize d[k] = x at *
    have FX := And.intro hat hle
    repeat' (first | refine WK.seq ?_ | refine WK.reg ?_ | refine IL.nil ?_ | refine WK.skip ?_ | refine WK.block ?_ | refine WK.exit_here ?_ | refine WK.e1 ?_ | refine WK.e2 ?_ | refine WK.drawnS (id := 7) mixed [] [] [] [] (by decide +kernel) ?_ | refine DW.nil ?_ | (with_reducible refine IL.wr ?_ ?_; focus exact cW) | (with_reducible refine DW.wr ?_ ?_; focus exact cW) | refine IL.sgF ttok ?_ | refine IL.nn ?_ | refine DW.reF ttok ?_ | refine DW.rmF ttok ?_ | refine IL.cSF ttok ent9 [.bor] false ?_ (hS := by refine ref10_frz _ _ _ _ _ _ ?_ ?_ ?_ <;> exact cO) | refine IL.cSF ttok ent49 [.bor, .bor] true ?_ (hS := by refine sameTxn_call _ _ _ _ _ _ _ ?_ ?_ ?_ ?_ <;> exact cO) | ((first | ((first | refine IL.ag (fun h => ?_) (fun h => ?_) | refine IL.ap (fun h => ?_) (fun h => ?_)); (fail_if_success (focus (simp only [reduceCtorEq] at h)))) | refine WK.cn (fun h => ?_) (fun h => ?_)); all_goals first | (simp only [reduceCtorEq] at h; done) | (simp only [hsA, hsD, hsE, ne_eq] at h; first | done | (exfalso; omega; done) | skip) | skip))
    all_goals try ((first | refine WK.ret ⟨.inr rfl, ?_⟩ | refine ⟨.inl rfl, ?_⟩ | refine ⟨.inl trivial, ?_⟩); refine Fin.o ?_ ?_ (h1 := by first | rfl | (simp only [go_sem, show Tryz.f15.results.toList = [.tmp 4] from rfl, reduceIte] <;> rfl)); rotate_left 1; (focus (first | rfl | skip)); all_goals try with_reducible rfl)
    all_goals first | (refine Weak.renS [0, 1, 2] hfx rfl ?_ ?_ rfl <;> (simp only [go_sem, reduceIte, exists_eq_left', exists_eq_left, Blk.mk.injEq, enT, enL] <;> (try and_intros) <;> first | rfl | omega)) | (refine ⟨?_, ?_⟩; rotate_left 1; (focus (refine Weak.renS [0, 1, 2] hfx rfl ?_ ?_ rfl <;> (simp only [go_sem, reduceIte, exists_eq_left', exists_eq_left, Blk.mk.injEq, enT, enL] <;> (try and_intros) <;> first | rfl | omega))); first | trivial | assumption | omega | grind) | grind
  · repeat' (first | refine WK.seq ?_ | refine WK.reg ?_ | refine IL.nil ?_ | refine WK.skip ?_ | refine WK.block ?_ | refine WK.exit_here ?_ | refine WK.e1 ?_ | refine WK.e2 ?_ | refine WK.drawnS (id := 7) mixed [] [] [] [] (by decide +kernel) ?_ | refine DW.nil ?_ | (with_reducible refine IL.wr ?_ ?_; focus exact cW) | (with_reducible refine DW.wr ?_ ?_; focus exact cW) | refine IL.sg ttok ?_ | refine IL.nn ?_ | refine DW.re ttok ?_ | refine DW.rm ttok ?_ | refine IL.cS ttok ent9 [.bor] false ?_ (hS := by refine ref10_frz _ _ _ _ _ _ ?_ ?_ ?_ <;> exact cO) | refine IL.cS ttok ent49 [.bor, .bor] true ?_ (hS := by refine sameTxn_call _ _ _ _ _ _ _ ?_ ?_ ?_ ?_ <;> exact cO) | ((first | ((first | refine IL.ag (fun h => ?_) (fun h => ?_) | refine IL.ap (fun h => ?_) (fun h => ?_)); (fail_if_success (focus (simp only [reduceCtorEq] at h)))) | refine WK.cn (fun h => ?_) (fun h => ?_)); all_goals first | (simp only [reduceCtorEq] at h; done) | (simp only [hsA, hsD, hsE, ne_eq] at h; first | done | (exfalso; omega; done) | skip) | skip))
    all_goals try ((first | refine WK.ret ⟨.inr rfl, ?_⟩ | refine ⟨.inl rfl, ?_⟩ | refine ⟨.inl trivial, ?_⟩); refine Fin.o ?_ ?_ (h1 := by first | rfl | (simp only [go_sem, show Tryz.f15.results.toList = [.tmp 4] from rfl, reduceIte] <;> rfl)); rotate_left 1; (focus (first | rfl | skip)); all_goals try with_reducible rfl)
def anOp : OpV := ⟨1, 0, 0, 1, [97], [], 0⟩
theorem anFit : fit10 [] 1 1 1 0 [anOp] = 0 := by
  have h8 : fit8 anOp.k anOp.r anOp.n anOp.m anOp.t anOp.s anOp.q = 0 := by
    have h1 : numd 1 0 0 1 [97] [] := by decide
    have h2 : plainT [97] := by decide
    show fit8 1 0 0 1 [97] [] 0 = 0
    unfold fit8
    rw [if_pos rfl, if_neg (by intro h; rcases h with h | h | h | h <;> first | exact h rfl | exact h h2 | cases h), if_neg (by decide), if_pos h1]
  have h9 : fit9 1 1 0 [anOp] = 0 := by
    unfold fit9
    rw [if_neg (by simp), if_neg (by simp)]
    show fit9Go 1 1 [anOp] (-1) = 0
    unfold fit9Go
    rw [if_pos h8, if_neg (by intro h; exact absurd h.1 (by decide)), if_neg (by intro h; exact absurd h.2.1 (by decide))]
    rfl
  unfold fit10
  rw [if_pos ⟨by decide, by decide⟩]
  exact h9
theorem anLen : (encB [] 1 1 1 0 [anOp]).length + 4 = 23 := by
  have e : ∀ n, n < 128 → numB n = [UInt8.ofNat n] := numB_small
  simp only [encB, bodyB, hdB, opsB, opBV, opB, depsB, anOp, List.flatMap_cons, List.flatMap_nil, List.length_append, List.length_cons, List.length_nil, be4_len]
  simp [e]
theorem anchor10 : SCallG GT Tryz.prog 7 [] (.v (.bool true)) [] := by
  have hok : okO anOp := ⟨1, 0, 0, 1, 0, rfl, by decide, by decide, by decide, by decide, by decide, by decide, by decide, fun x h => by cases h⟩
  have hfi := cFit10_call [] 1 1 1 0 [anOp] (by decide) (fun x h => by cases h) (by decide) (by decide) (fun o h => by rw [List.mem_singleton.1 h]; decide) (fun o h => by rw [List.mem_singleton.1 h]; unfold wfC anOp; simp)
  rw [anFit] at hfi
  have hen := (encode_ok [] 1 1 1 0 [anOp] (by decide) (fun x h => by cases h) (by decide) (by decide) (by decide) (by decide) (by decide) (fun o h => by rw [List.mem_singleton.1 h]; exact hok) (by have := anLen; unfold encB at this; simp only [List.length_append, be4_len, List.length_cons, List.length_nil] at this; omega) hfi)
  rw [anLen] at hen
  generalize bcells (sealB (encB [] 1 1 1 0 [anOp])) = X at *
  have hen : SCallG GT Tryz.prog 11 [.agg (enL (.tr 0 []) 1 1 1 0 (.tr 1 [.v (.int .i64 1), .v (.int .u16 0), .v (.int .u32 0), .v (.int .u32 1), .v (.string ⟨[97].toArray⟩), .tr 0 [], .v (.int .u32 0)]))] (.tup [.own 5 23 true X, .v (.int .i64 0)]) [.agg (enL (.tr 0 []) 1 1 1 0 (.tr 1 [.v (.int .i64 1), .v (.int .u16 0), .v (.int .u32 0), .v (.int .u32 1), .v (.string ⟨[97].toArray⟩), .tr 0 [], .v (.int .u32 0)]))] := hen
  have hen := SCallG.weakE [.agg (enL (.tr 0 []) 1 1 1 0 (.tr 1 [.v (.int .i64 1), .v (.int .u16 0), .v (.int .u32 0), .v (.int .u32 1), .v (.string ⟨[97].toArray⟩), .emp, .v (.int .u32 0)]))] (by simp only [deEl, deE, enL]; exact hen) rfl
  refine SCallG.of_body' (G := GT) (TT := TT) (fun _ => false) [] ttok Tryz.func7 rfl (Nat.le_of_ble_eq_true rfl) rfl fun fx hfx hgf => WK.top ?_
  simp only [impl, imp, argT, List.append_nil, List.map_nil, List.nil_append, show Tryz.f7.ntmps = 18 from rfl, Nat.zero_add, Nat.reduceAdd]
  repeat' (first | refine WK.seq ?_ | refine WK.reg ?_ | refine IL.nil ?_ | (with_reducible refine IL.wr ?_ ?_; focus exact cW) | refine IL.sg ttok ?_ | refine IL.nn ?_ | refine IL.cSG hgf ttok ent11 [.bor] false ?_ (hS := by exact hen) | (((first | refine IL.ag (fun h => ?_) (fun h => ?_) | refine IL.ap (fun h => ?_) (fun h => ?_)); (fail_if_success (focus (simp only [reduceCtorEq] at h)))); all_goals first | (simp only [reduceCtorEq] at h; done) | (simp only [hsA, hsD, hsE, ne_eq] at h; first | done | (exfalso; omega; done) | skip) | skip))
  all_goals try ((first | refine WK.ret ⟨.inr rfl, ?_⟩ | refine ⟨.inl rfl, ?_⟩ | refine ⟨.inl trivial, ?_⟩); refine Fin.o ?_ ?_ (h1 := by first | rfl | (simp only [go_sem, show Tryz.f7.results.toList = [.tmp 0] from rfl, reduceIte] <;> rfl)); rotate_left 1; (focus (first | rfl | skip)); all_goals try with_reducible rfl)
  all_goals rfl
end Go.Proofs.YtclhjcbnpdlgbaaGreatDoor
/- package wire: what any bytes lead to, for the code and the document. -/
namespace Go.Proofs.YtclhjcbnpdlgbaaGreatDoor
open Go Go.Lift
set_option maxHeartbeats 4000000
set_option linter.unusedSimpArgs false
set_option linter.unusedVariables false
attribute [local irreducible] WK IL IP IG IW DW

theorem decode_err (b : List UInt8) (e : Int) (he : ¬ e = 0) (hfr : SCall Tryz.prog 40 [.tr b.length (bcells b)] (.tup [.own 5 0 true [], .v (.int .i64 e)]) [.tr b.length (bcells b)]) :
    SCallG GT Tryz.prog 13 [.tr b.length (bcells b)] (errIV e) [.tr b.length (bcells b)] := by
  refine SCallG.of_body' (G := GT) (TT := TT) (fun _ => false) [false] ttok Tryz.func13 rfl (Nat.le_of_ble_eq_true rfl) rfl fun fx hfx hgf => WK.top ?_
  simp only [impl, imp, argT, List.append_nil, List.map_nil, List.nil_append, show Tryz.f13.ntmps = 51 from rfl, Nat.zero_add, Nat.reduceAdd]
  repeat' (first | refine WK.seq ?_ | refine WK.reg ?_ | refine IL.nil ?_ | refine WK.skip ?_ | refine WK.block ?_ | refine WK.exit_here ?_ | refine WK.e1 ?_ | refine WK.e2 ?_ | refine WK.drawnS (id := 8) mixed [] [3, 6, 9, 10, 12] [0, 0, 0, 0, 1, 0, 1, 2, 2, 2, 3, 4, 4] [3, 3, 0, 0, 2, 1, 1, 2, 2, 2, 3, 4, 4] (by decide +kernel) ?_ | refine DW.nil ?_ | (with_reducible refine IL.wr ?_ ?_; focus exact cW) | (with_reducible refine DW.wr ?_ ?_; focus exact cW) | refine IL.sg ttok ?_ | refine DW.re ttok ?_ | refine DW.rm ttok ?_ | refine DW.bk ttok ?_ | refine IL.cS ttok ent40 [.bor] false ?_ (hS := by exact hfr) | (refine WK.cn (fun h => ?_) (fun h => ?_); all_goals first | (simp only [reduceCtorEq] at h; done) | (simp only [hsA, hsD, hsE, ne_eq] at h; first | done | (exfalso; omega; done) | skip) | skip))
  refine WK.gotoL (α := Int) 0 (rest := _) rfl (fun x => 0) (fun x => x = e) (fun x => ⟨51, [(2, .ptr 2 0 0), (7, .v (.int .i64 x))], [some ⟨true, 79, 0, false, [], 0, false⟩, some ⟨true, 88, 0, true, [], 0, false⟩, some ⟨false, 0, 1, false, enL (.sl 1 0 0 0) 0 0 0 0 (.sl 0 0 0 0), 0, false⟩]⟩) ?_ ?_
  · intro x hx
    subst hx
    unfold errIV
    repeat' (first | refine WK.seq ?_ | refine WK.reg ?_ | refine IL.nil ?_ | refine WK.skip ?_ | refine WK.block ?_ | refine WK.exit_here ?_ | refine WK.e1 ?_ | refine WK.e2 ?_ | refine WK.drawnS (id := 8) mixed [] [3, 6, 9, 10, 12] [0, 0, 0, 0, 1, 0, 1, 2, 2, 2, 3, 4, 4] [3, 3, 0, 0, 2, 1, 1, 2, 2, 2, 3, 4, 4] (by decide +kernel) ?_ | refine DW.nil ?_ | (with_reducible refine IL.wr ?_ ?_; focus exact cW) | (with_reducible refine DW.wr ?_ ?_; focus exact cW) | refine IL.sg ttok ?_ | refine DW.re ttok ?_ | refine DW.rm ttok ?_ | refine DW.bk ttok ?_ | refine IL.cS ttok ent40 [.bor] false ?_ (hS := by exact hfr) | (refine WK.cn (fun h => ?_) (fun h => ?_); all_goals first | (simp only [reduceCtorEq] at h; done) | (simp only [hsA, hsD, hsE, ne_eq] at h; first | done | (exfalso; omega; done) | skip) | skip))
    all_goals try ((first | refine WK.ret ⟨.inr rfl, ?_⟩ | refine ⟨.inl rfl, ?_⟩ | refine ⟨.inl trivial, ?_⟩); refine Fin.o ?_ ?_ (h1 := by first | rfl | (simp only [go_sem, show Tryz.f13.results.toList = [.cell 2 31, .tmp 3] from rfl, reduceIte] <;> rfl)); rotate_left 1; (focus (first | rfl | skip)); all_goals try with_reducible rfl)
    all_goals first | rfl | skip
  · intro hw0
    repeat' (first | refine WK.seq ?_ | refine WK.reg ?_ | refine IL.nil ?_ | refine WK.skip ?_ | refine WK.block ?_ | refine WK.exit_here ?_ | refine WK.e1 ?_ | refine WK.e2 ?_ | refine WK.drawnS (id := 8) mixed [] [3, 6, 9, 10, 12] [0, 0, 0, 0, 1, 0, 1, 2, 2, 2, 3, 4, 4] [3, 3, 0, 0, 2, 1, 1, 2, 2, 2, 3, 4, 4] (by decide +kernel) ?_ | refine DW.nil ?_ | (with_reducible refine IL.wr ?_ ?_; focus exact cW) | (with_reducible refine DW.wr ?_ ?_; focus exact cW) | refine IL.sg ttok ?_ | refine DW.re ttok ?_ | refine DW.rm ttok ?_ | refine DW.bk ttok ?_ | refine IL.cS ttok ent40 [.bor] false ?_ (hS := by exact hfr) | (refine WK.cn (fun h => ?_) (fun h => ?_); all_goals first | (simp only [reduceCtorEq] at h; done) | (simp only [hsA, hsD, hsE, ne_eq] at h; first | done | (exfalso; omega; done) | skip) | skip))
    all_goals (refine WK.goto ⟨rfl, e, rfl, ?_⟩)
    (refine Weak.renS [0, 1, 2] hfx rfl ?_ ?_ rfl <;> (simp only [go_sem, reduceIte, exists_eq_left', exists_eq_left, Blk.mk.injEq, enL] <;> (try and_intros) <;> first | rfl | omega))
theorem goodO_of {o : OpV} (hr : 0 ≤ o.r ∧ o.r ≤ 65535) (hw : wfC o) (h1 : ∀ x ∈ o.s, 0 ≤ x.1 ∧ x.1 ≤ 65535) (hs : o.s.length ≤ 1000) (h : fit8 o.k o.r o.n o.m o.t o.s o.q = 0) : goodO o := by
  unfold wfC at hw
  obtain ⟨w2, w3, w4, _⟩ := hw
  have hok := fit8_ok h
  have hrt : ∀ x ∈ o.s, rightI x := by
    rcases hok with h | h | h | h
    · rw [h.2.1]; simp
    · exact (fit7_ok h.2.2.2.2).1
    · exact (fit7_ok h.2.2.2.1).1
    · rw [h.2.2.1]; simp
  have hf : ∀ x ∈ o.s, fits x := fun x hx => by
    have g1 := hrt x hx
    have g2 := h1 x hx
    unfold rightI at g1
    exact ⟨g2.1, g2.2, g1.1, g1.2.2.2.1, g1.2.1, g1.2.2.1⟩
  obtain ⟨k, r, n, m, t, s, q⟩ := o
  simp only at *
  unfold numd placeI at hok
  obtain ⟨k, rfl⟩ := Int.eq_ofNat_of_zero_le (show 0 ≤ k by omega)
  obtain ⟨r, rfl⟩ := Int.eq_ofNat_of_zero_le hr.1
  obtain ⟨n, rfl⟩ := Int.eq_ofNat_of_zero_le w2
  obtain ⟨m, rfl⟩ := Int.eq_ofNat_of_zero_le w3.1
  obtain ⟨q, rfl⟩ := Int.eq_ofNat_of_zero_le w4.1
  refine ⟨k, r, n, m, q, rfl, by omega, by omega, by omega, by omega, by rcases hok with h | h | h | h <;> first | exact h.2.2.2.1 | omega | (rw [h.2.1]; simp), hs, hf, ?_⟩
  rcases hok with h | h | h | h
  · exact .inl ⟨by omega, h.2.1, by omega⟩
  · exact .inr (.inl ⟨by omega, h.2.1, by omega, by omega, by omega, by omega⟩)
  · exact .inr (.inr (.inl ⟨by omega, h.2.1, by omega⟩))
  · exact .inr (.inr (.inr ⟨by omega, h.2.1, h.2.2.1, by omega, by omega, by omega⟩))
theorem obd_wfC {o : OpV} (h : obd o) : wfC o := by
  unfold obd at h
  obtain ⟨a1, a2, a3, a4, a5, a6, a7, a8⟩ := h
  unfold wfC
  refine ⟨a3.1, by omega, by omega, fun x hx => ?_⟩
  have := a8 x hx
  unfold sbd at this
  omega
theorem spsB_ge (s : List Sp) : 3 * s.length ≤ (spsB s).length := by
  induction s with
  | nil => simp [spsB]
  | cons x s ih =>
    have h : ∀ n, 0 < (numB n).length := fun n => by
      by_cases h : n < 128
      · rw [numB_small n h]; simp
      · rw [numB_big n h]; simp
    have a := h x.1.toNat
    have b := h x.2.1.toNat
    have c := h x.2.2.toNat
    simp only [spsB, List.flatMap_cons, spB, List.length_append, List.length_cons] at ih ⊢
    omega
theorem opBV_ge {o : OpV} (h : fit8 o.k o.r o.n o.m o.t o.s o.q = 0) : 3 * o.s.length ≤ (opBV o).length := by
  have hs := spsB_ge o.s
  unfold opBV opB
  rcases fit8_ok h with h | h | h | h
  · rw [h.2.1]; simp
  · rw [h.1]; simp only [Int.reduceToNat, List.length_append]; simp; omega
  · rw [h.1]; simp only [Int.reduceToNat, List.length_append]; simp; omega
  · rw [h.2.2.1]; simp
theorem opsB_mem : ∀ {ops : List OpV} {o : OpV}, o ∈ ops → (opBV o).length ≤ (opsB ops).length
  | x :: ops, o, h => by
    simp only [opsB, List.flatMap_cons, List.length_append]
    rcases List.mem_cons.1 h with rfl | h
    · omega
    · have := opsB_mem h
      simp only [opsB] at this
      omega
theorem depsB_ge (d : List Vc.Ve) : 2 * d.length ≤ (depsB d).length := by
  induction d with
  | nil => simp [depsB]
  | cons x d ih =>
    have h : ∀ n, 0 < (numB n).length := fun n => by
      by_cases h : n < 128
      · rw [numB_small n h]; simp
      · rw [numB_big n h]; simp
    have a := h x.1.toNat
    have b := h x.2.toNat
    simp only [depsB, List.flatMap_cons, depB, List.length_append, List.length_cons] at ih ⊢
    omega
theorem wire_read (b : List UInt8) (h : b.length ≤ 3000) :
    (∃ e : Int, ¬ e = 0 ∧ SCallG GT Tryz.prog 13 [.tr b.length (bcells b)] (errIV e) [.tr b.length (bcells b)] ∧ SCall Tryz.prog 16 [.tr b.length (bcells b)] (errIV e) [.tr b.length (bcells b)]) ∨
    (∃ (od : List Vc.Ve) (r s c u : Int) (ops : List OpV), od.length ≤ 65536 ∧ ops.length ≤ 16 ∧ (∀ o ∈ ops, o.s.length ≤ 1024) ∧
      SCallG GT Tryz.prog 13 [.tr b.length (bcells b)] (.tup [.agg (enT od r s c u ops), .v (.int .i64 0)]) [.tr b.length (bcells b)] ∧
      SCall Tryz.prog 16 [.tr b.length (bcells b)] (.tup [.agg (enT od r s c u ops), .v (.int .i64 0)]) [.tr b.length (bcells b)] ∧
      SCall Tryz.prog 14 [.agg (enT od r s c u ops)] (.own 5 b.length true (bcells b)) [.agg (enT od r s c u ops)]) := by
  by_cases h1 : b.length < 11
  · exact .inl ⟨14, by decide, decode_err b 14 (by decide) (frame_short b h1), read_short b h1⟩
  by_cases hf : b.take 3 = [67, 80, 1] ∧ lenW b = b.length
  rotate_left
  · exact .inl ⟨30, by decide, decode_err b 30 (by decide) (frame_bad b h1 (by omega) hf), read_bad b h1 (by omega) hf⟩
  obtain ⟨ht, hl⟩ := hf
  have hfr := frame_sealed b h1 (by omega) ht hl
  by_cases hs : isSealed b = true
  rotate_left
  · rw [if_neg hs] at hfr
    refine .inl ⟨31, by decide, decode_err b 31 (by decide) hfr, ?_⟩
    have := read_framed b h1 (by omega) ht hl (errIV 31) (fun h => absurd h hs) (fun h => absurd h hs)
    rwa [if_neg hs] at this
  rw [if_pos hs] at hfr
  have hcl : ((b.take (b.length - 4)).drop 7).length = b.length - 11 := by simp only [List.length_drop, List.length_take]; omega
  have hFr := framed b h1 ht hl
  have hrf := fun R => read_framed b h1 (by omega) ht hl R
  simp only [if_pos hs] at hrf
  have hrf := fun R h1 h2 => hrf R (fun _ => h1) (fun _ => h2)
  have hse := (sealed_iff b (by omega)).1 hs
  generalize hc : (b.take (b.length - 4)).drop 7 = c at *
  rcases hn : rNum c 0 0 65536 with ⟨n, p0, e0⟩
  rcases hG : depsGo c n [] p0 e0 with ⟨od, pd, ed⟩
  rcases hT : rTx c pd ed with ⟨tv, q, e2⟩
  have b1 := rNum_le c 0 0 65536 (Nat.zero_le _)
  rw [hn] at b1
  have b2 := depsGo_bd c n [] p0 e0 b1.2 (by simp)
  rw [hG] at b2
  obtain ⟨⟨b3, b4⟩, b5⟩ := b2
  simp only [List.length_nil] at b1 b3 b4 b5
  have b6 := rTx_bd c pd ed
  have b7 := rTx_pos c pd ed b5
  rw [hT] at b6 b7
  obtain ⟨c1, c2, c3, c4, c5, c6⟩ := b6
  simp only at c1 c2 c3 c4 c5 c6 b7
  have hwd : wfD od := fun x hx => by have := b4 x hx; unfold dbd at this; omega
  have hwo : ∀ o ∈ tv.ops, wfC o := fun o ho => obd_wfC (c6 o ho)
  have hsz : ∀ o ∈ tv.ops, o.t.length ≤ 1000 ∧ o.s.length ≤ 1024 := fun o ho => by have := c6 o ho; unfold obd at this; omega
  have hfi := cFit10_call od tv.r tv.s tv.c tv.u tv.ops (by omega) hwd c1 (by omega) hsz hwo
  have hfr2 := rFit10_call od tv.r tv.s tv.c tv.u tv.ops (by omega) hwd (by omega) hsz hwo
  generalize hF : fit10 od tv.r tv.s tv.c tv.u tv.ops = F at *
  generalize hD : (if e2 = 0 ∧ q < c.length then 15 else e2 : Int) = D
  rw [← hcl] at hfr hrf
  have hdec := decode_call b c (by omega) hfr n p0 e0 hn od pd ed hG b5 tv q e2 hT b7 D F hD hfi
  have hbod := body_call c c.length rfl (by omega) n p0 e0 hn od pd ed hG b5 tv q e2 hT b7 D F hD hfr2
  by_cases hD0 : D = 0
  rotate_left
  · simp only [if_neg hD0] at hdec hbod
    exact .inl ⟨D, hD0, hdec, hrf _ (.inl ⟨D, rfl⟩) hbod⟩
  simp only [if_pos hD0] at hdec hbod
  by_cases hF0 : F = 0
  rotate_left
  · simp only [if_neg hF0] at hdec hbod
    exact .inl ⟨F, hF0, hdec, hrf _ (.inl ⟨F, rfl⟩) hbod⟩
  simp only [if_pos hF0] at hdec hbod
  have hrd := hrf _ (.inr ⟨od, tv, rfl⟩) hbod
  subst hF0
  subst hD0
  obtain ⟨rfl, hq⟩ : e2 = 0 ∧ ¬ q < c.length := by
    split at hD
    · cases hD
    · rename_i h
      exact ⟨hD, fun hq => h ⟨hD, hq⟩⟩
  have hcan := body_can hn hG hT hq
  obtain ⟨f1, f2, f3⟩ := fit10_ok hF
  obtain ⟨g1, g2, g3, g4, g5, g6, g7, g8, g9⟩ := fit9_ok f3
  obtain ⟨r, s, cl, u, ops⟩ := tv
  simp only at *
  obtain ⟨r, rfl⟩ := Int.eq_ofNat_of_zero_le c1.1
  obtain ⟨s, rfl⟩ := Int.eq_ofNat_of_zero_le c2.1
  obtain ⟨cl, rfl⟩ := Int.eq_ofNat_of_zero_le c3.1
  obtain ⟨u, rfl⟩ := Int.eq_ofNat_of_zero_le c4.1
  simp only [Int.toNat_natCast] at hcan
  have hlen : (bodyB od r s cl u ops).length ≤ 3000 := by rw [hcan, hcl]; omega
  have hol : (opsB ops).length ≤ 3000 := by
    unfold bodyB at hlen
    simp only [List.length_append] at hlen
    omega
  have hdl : od.length ≤ 2000 := by
    obtain ⟨rfl, r', d2, d3, d4⟩ := depsGo_can c n [] p0 e0 od pd (by rw [hG, (rTx_can hT).1])
    have hdp := depsB_ge od
    unfold bodyB at hlen
    simp only [List.length_append] at hlen
    omega
  have hgood : ∀ o ∈ ops, goodO o := fun o ho => by
    have h1 := opBV_ge (g9 o ho)
    have h2 := opsB_mem ho
    have h3 := c6 o ho
    unfold obd at h3
    exact goodO_of h3.2.1 (hwo o ho) (fun x hx => (h3.2.2.2.2.2.2.2 x hx).1) (by omega) (g9 o ho)
  have hrb := refB10_call od r s cl u ops hdl hwd (by omega) (by omega) (by omega) (by omega) (by omega) (fun o ho => goodO_ok (hgood o ho))
  have hE : encB od r s cl u ops = b.take (b.length - 4) := by
    unfold encB
    rw [hcan]
    exact hFr
  rw [hE, hse, List.length_take, show min (b.length - 4) b.length + 4 = b.length by omega] at hrb
  exact .inr ⟨od, r, s, cl, u, ops, by omega, g8, fun o ho => (hsz o ho).2, SCallG.frz hdec rfl, SCall.frz hrd rfl, hrb⟩
end Go.Proofs.YtclhjcbnpdlgbaaGreatDoor
/- WireReads: its function. -/
namespace Go.Proofs.YtclhjcbnpdlgbaaGreatDoor
open Go Go.Lift
set_option maxHeartbeats 4000000
set_option linter.unusedSimpArgs false
set_option linter.unusedVariables false
attribute [local irreducible] WK IL IP IG IW DW

theorem wireReads_call (b : List UInt8) (hb : b.length ≤ 9223372036854775807) : SCallG GT Tryz.prog 4 [.tr b.length (bcells b)] (.v (.bool true)) [.tr b.length (bcells b)] := by
  by_cases h : b.length ≤ 3000
  · rcases wire_read b h with ⟨e, he, hde, hrd⟩ | ⟨od, r, s, c, u, ops, l1, l2, l3, hde, hrd, hrb⟩
    · have hsa := same10_call [] 0 0 0 0 [] (by simp) (by simp) (by simp)
      unfold errIV at hde hrd
      refine SCallG.of_body' (G := GT) (TT := TT) (fun _ => false) [false] ttok Tryz.func4 rfl (Nat.le_of_ble_eq_true rfl) rfl fun fx hfx hgf => WK.top ?_
      simp only [impl, imp, argT, List.append_nil, List.map_nil, List.nil_append, show Tryz.f4.ntmps = 41 from rfl, Nat.zero_add, Nat.reduceAdd]
      repeat' (first | refine WK.seq ?_ | refine WK.reg ?_ | refine IL.nil ?_ | refine WK.skip ?_ | refine WK.drawnS (id := 9) mixed [] [4] [0, 0, 0, 0, 0, 1, 0, 0, 1, 1, 1] [0, 0, 0, 0, 0, 1, 1, 1, 1, 1, 1] (by decide +kernel) ?_ | refine DW.nil ?_ | (with_reducible refine IL.wr ?_ ?_; focus exact cW) | (with_reducible refine DW.wr ?_ ?_; focus exact cW) | refine IL.sg ttok ?_ | refine IL.nn ?_ | refine DW.re ttok ?_ | refine DW.rm ttok ?_ | refine DW.nn ?_ | refine DW.nb ?_ | refine IL.cSG hgf ttok ent7 [] true ?_ (hS := by exact anchor10) | refine IL.cSG hgf ttok ent13 [.bor] false ?_ (hS := by exact hde) | refine DW.cS ttok ent14 [.bor] true ?_ (hS := by exact hrb) | refine IL.cS ttok ent15 [.bor, .bor] true ?_ (hS := by exact hsa) | refine IL.cS ttok ent16 [.bor] false ?_ (hS := by exact hrd) | ((first | ((first | refine IL.ag (fun h => ?_) (fun h => ?_) | refine DW.ag (fun h => ?_) (fun h => ?_) | refine IL.ap (fun h => ?_) (fun h => ?_) | refine DW.ap (fun h => ?_) (fun h => ?_)); (fail_if_success (focus (simp only [reduceCtorEq] at h)))) | refine WK.cn (fun h => ?_) (fun h => ?_)); all_goals first | (simp only [reduceCtorEq] at h; done) | (simp only [hsA, hsD, hsE, ne_eq] at h; first | done | (exfalso; omega; done) | skip) | skip))
      all_goals try ((first | refine WK.ret ⟨.inr rfl, ?_⟩ | refine ⟨.inl rfl, ?_⟩ | refine ⟨.inl trivial, ?_⟩); refine Fin.o ?_ ?_ (h1 := by first | rfl | (simp only [go_sem, show Tryz.f4.results.toList = [.tmp 2] from rfl, reduceIte] <;> rfl)); rotate_left 1; (focus (first | rfl | skip)); all_goals try with_reducible rfl)
      all_goals skip
    · have hsa := same10_call od r s c u ops (by omega) (by omega) (fun o ho => by have := l3 o ho; omega)
      refine SCallG.of_body' (G := GT) (TT := TT) (fun _ => false) [false] ttok Tryz.func4 rfl (Nat.le_of_ble_eq_true rfl) rfl fun fx hfx hgf => WK.top ?_
      simp only [impl, imp, argT, List.append_nil, List.map_nil, List.nil_append, show Tryz.f4.ntmps = 41 from rfl, Nat.zero_add, Nat.reduceAdd]
      repeat' (first | refine WK.seq ?_ | refine WK.reg ?_ | refine IL.nil ?_ | refine WK.skip ?_ | refine WK.drawnS (id := 9) mixed [] [4] [0, 0, 0, 0, 0, 1, 0, 0, 1, 1, 1] [0, 0, 0, 0, 0, 1, 1, 1, 1, 1, 1] (by decide +kernel) ?_ | refine DW.nil ?_ | (with_reducible refine IL.wr ?_ ?_; focus exact cW) | (with_reducible refine DW.wr ?_ ?_; focus exact cW) | refine IL.sg ttok ?_ | refine IL.nn ?_ | refine DW.re ttok ?_ | refine DW.rm ttok ?_ | refine DW.nn ?_ | refine DW.nb ?_ | refine IL.cSG hgf ttok ent7 [] true ?_ (hS := by exact anchor10) | refine IL.cSG hgf ttok ent13 [.bor] false ?_ (hS := by exact hde) | refine DW.cS ttok ent14 [.bor] true ?_ (hS := by exact hrb) | refine IL.cS ttok ent15 [.bor, .bor] true ?_ (hS := by exact hsa) | refine IL.cS ttok ent16 [.bor] false ?_ (hS := by exact hrd) | ((first | ((first | refine IL.ag (fun h => ?_) (fun h => ?_) | refine DW.ag (fun h => ?_) (fun h => ?_) | refine IL.ap (fun h => ?_) (fun h => ?_) | refine DW.ap (fun h => ?_) (fun h => ?_)); (fail_if_success (focus (simp only [reduceCtorEq] at h)))) | refine WK.cn (fun h => ?_) (fun h => ?_)); all_goals first | (simp only [reduceCtorEq] at h; done) | (simp only [hsA, hsD, hsE, ne_eq] at h; first | done | (exfalso; omega; done) | skip) | skip))
      all_goals try ((first | refine WK.ret ⟨.inr rfl, ?_⟩ | refine ⟨.inl rfl, ?_⟩ | refine ⟨.inl trivial, ?_⟩); refine Fin.o ?_ ?_ (h1 := by first | rfl | (simp only [go_sem, show Tryz.f4.results.toList = [.tmp 2] from rfl, reduceIte] <;> rfl)); rotate_left 1; (focus (first | rfl | skip)); all_goals try with_reducible rfl)
      all_goals skip
  · refine SCallG.of_body' (G := GT) (TT := TT) (fun _ => false) [false] ttok Tryz.func4 rfl (Nat.le_of_ble_eq_true rfl) rfl fun fx hfx hgf => WK.top ?_
    simp only [impl, imp, argT, List.append_nil, List.map_nil, List.nil_append, show Tryz.f4.ntmps = 41 from rfl, Nat.zero_add, Nat.reduceAdd]
    repeat' (first | refine WK.seq ?_ | refine WK.reg ?_ | refine IL.nil ?_ | refine WK.skip ?_ | refine WK.drawnS (id := 9) mixed [] [4] [0, 0, 0, 0, 0, 1, 0, 0, 1, 1, 1] [0, 0, 0, 0, 0, 1, 1, 1, 1, 1, 1] (by decide +kernel) ?_ | refine DW.nil ?_ | (with_reducible refine IL.wr ?_ ?_; focus exact cW) | (with_reducible refine DW.wr ?_ ?_; focus exact cW) | refine IL.sg ttok ?_ | refine IL.nn ?_ | refine DW.re ttok ?_ | refine DW.rm ttok ?_ | refine DW.nn ?_ | refine DW.nb ?_ | refine IL.cSG hgf ttok ent7 [] true ?_ (hS := by exact anchor10) | refine IL.cSG hgf ttok ent13 [.bor] false ?_ (hS := by exact hde) | refine DW.cS ttok ent14 [.bor] true ?_ (hS := by exact hrb) | refine IL.cS ttok ent15 [.bor, .bor] true ?_ (hS := by exact hsa) | refine IL.cS ttok ent16 [.bor] false ?_ (hS := by exact hrd) | ((first | ((first | refine IL.ag (fun h => ?_) (fun h => ?_) | refine DW.ag (fun h => ?_) (fun h => ?_) | refine IL.ap (fun h => ?_) (fun h => ?_) | refine DW.ap (fun h => ?_) (fun h => ?_)); (fail_if_success (focus (simp only [reduceCtorEq] at h)))) | refine WK.cn (fun h => ?_) (fun h => ?_)); all_goals first | (simp only [reduceCtorEq] at h; done) | (simp only [hsA, hsD, hsE, ne_eq] at h; first | done | (exfalso; omega; done) | skip) | skip))
    all_goals try ((first | refine WK.ret ⟨.inr rfl, ?_⟩ | refine ⟨.inl rfl, ?_⟩ | refine ⟨.inl trivial, ?_⟩); refine Fin.o ?_ ?_ (h1 := by first | rfl | (simp only [go_sem, show Tryz.f4.results.toList = [.tmp 2] from rfl, reduceIte] <;> rfl)); rotate_left 1; (focus (first | rfl | skip)); all_goals try with_reducible rfl)
    all_goals skip
end Go.Proofs.YtclhjcbnpdlgbaaGreatDoor
