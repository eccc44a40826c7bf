/- package txn: the document reads a transaction. -/
import Derived.Test.YtolbmgkoifchfaaDoorLX6U2
namespace Go.Proofs.YtolbmgkoifchfaaDoor
open Go Go.Lift
set_option maxHeartbeats 8000000
set_option linter.unusedSimpArgs false
set_option linter.unusedVariables false
attribute [local irreducible] WK IL IP IG IW DW

theorem opRead_frz (l : List UInt8) (p : Nat) (nn : Nat) (hnn : nn = l.length) (hp : p ≤ l.length) (hl : l.length < 2 ^ 62) : SCall Tryd.prog 23 [.tr nn (bcells l), .v (.int .i64 (p : Int))]
    (.tup [.agg (opC (rOp l p 0).1), .v (.int .i64 ((rOp l p 0).2.1 : Int)), .v (.int .i64 (rOp l p 0).2.2)]) [.tr nn (bcells l), .v (.int .i64 (p : Int))] := (opRead_call l p nn hnn hp hl).frz rfl
def r5 (l : List UInt8) (p : Nat) (e : Int) : (Nat × Nat × Nat × Nat × Nat) × Nat × Int :=
  let x1 := rNum l p e 65535
  let x2 := rNum l x1.2.1 x1.2.2 268435456
  let x3 := rNum l x2.2.1 x2.2.2 1099511627776
  let x4 := rNum l x3.2.1 x3.2.2 7
  let x5 := rNum l x4.2.1 x4.2.2 16
  ((x1.1, x2.1, x3.1, x4.1, x5.1), x5.2)
theorem r5_of {l : List UInt8} {p a p1 b p2 c p3 d p4 n p5 : Nat} {e e1 e2 e3 e4 e5 : Int} (h1 : rNum l p e 65535 = (a, p1, e1)) (h2 : rNum l p1 e1 268435456 = (b, p2, e2)) (h3 : rNum l p2 e2 1099511627776 = (c, p3, e3)) (h4 : rNum l p3 e3 7 = (d, p4, e4)) (h5 : rNum l p4 e4 16 = (n, p5, e5)) :
    r5 l p e = ((a, b, c, d, n), p5, e5) := by
  unfold r5; simp only [h1, h2, h3, h4, h5]
/-- a header that can't be read -/
def bad5 (l : List UInt8) (p : Nat) (x : Nat × Int) : Prop := ∃ a b c d, r5 l p 0 = ((a, b, c, d, 0), x)
theorem r5_err0 {l : List UInt8} {p a q : Nat} {e : Int} (h : rNum l p 0 65535 = (a, q, e)) (he : ¬ e = 0) : bad5 l p (q, e) := ⟨_, _, _, _, r5_of h (rNum_err l _ _ _ he) (rNum_err l _ _ _ he) (rNum_err l _ _ _ he) (rNum_err l _ _ _ he)⟩
theorem r5_err1 {l : List UInt8} {p a p1 b q : Nat} {e : Int} (h1 : rNum l p 0 65535 = (a, p1, 0)) (h : rNum l p1 0 268435456 = (b, q, e)) (he : ¬ e = 0) : bad5 l p (q, e) := ⟨_, _, _, _, r5_of h1 h (rNum_err l _ _ _ he) (rNum_err l _ _ _ he) (rNum_err l _ _ _ he)⟩
theorem r5_err2 {l : List UInt8} {p a p1 b p2 c q : Nat} {e : Int} (h1 : rNum l p 0 65535 = (a, p1, 0)) (h2 : rNum l p1 0 268435456 = (b, p2, 0)) (h : rNum l p2 0 1099511627776 = (c, q, e)) (he : ¬ e = 0) : bad5 l p (q, e) := ⟨_, _, _, _, r5_of h1 h2 h (rNum_err l _ _ _ he) (rNum_err l _ _ _ he)⟩
theorem r5_err3 {l : List UInt8} {p a p1 b p2 c p3 d q : Nat} {e : Int} (h1 : rNum l p 0 65535 = (a, p1, 0)) (h2 : rNum l p1 0 268435456 = (b, p2, 0)) (h3 : rNum l p2 0 1099511627776 = (c, p3, 0)) (h : rNum l p3 0 7 = (d, q, e)) (he : ¬ e = 0) : bad5 l p (q, e) := ⟨_, _, _, _, r5_of h1 h2 h3 h (rNum_err l _ _ _ he)⟩
theorem r5_err4 {l : List UInt8} {p a p1 b p2 c p3 d p4 n q : Nat} {e : Int} (h1 : rNum l p 0 65535 = (a, p1, 0)) (h2 : rNum l p1 0 268435456 = (b, p2, 0)) (h3 : rNum l p2 0 1099511627776 = (c, p3, 0)) (h4 : rNum l p3 0 7 = (d, p4, 0)) (h : rNum l p4 0 16 = (n, q, e)) (he : ¬ e = 0) : bad5 l p (q, e) := by
  obtain rfl := rNum_zero h he
  exact ⟨_, _, _, _, r5_of h1 h2 h3 h4 h⟩
theorem rTx_r5 {l : List UInt8} {p a b c d n q : Nat} {e : Int} (h : r5 l p 0 = ((a, b, c, d, n), q, e)) : rTx l p 0 = txF a b c d (opsGo l n [] q e) := by
  unfold r5 at h
  simp only [Prod.mk.injEq] at h
  obtain ⟨⟨rfl, rfl, rfl, rfl, rfl⟩, h6⟩ := h
  unfold rTx
  simp only [h6]
theorem rTx_bad {l : List UInt8} {p : Nat} {x : Nat × Int} (h : bad5 l p x) (hx : ¬ x.2 = 0) : rTx l p 0 = (⟨0, 0, 0, 0, []⟩, x) := by
  obtain ⟨a, b, c, d, h⟩ := h
  rw [rTx_r5 h, opsGo]
  unfold txF
  rw [if_neg hx]
theorem txRead_call (l : List UInt8) (p : Nat) (nn : Nat) (hnn : nn = l.length) (hp : p ≤ l.length) (hl : l.length < 2 ^ 62) : SCall Tryd.prog 8 [.tr nn (bcells l), .v (.int .i64 (p : Int))]
    (.tup [txO (rTx l p 0).1 67, .v (.int .i64 ((rTx l p 0).2.1 : Int)), .v (.int .i64 (rTx l p 0).2.2)]) [.tr nn (bcells l), .v (.int .i64 (p : Int))] := by
  subst hnn
  generalize hG : rTx l p 0 = G
  refine SCall.of_body' (TT := TT) (fun _ => false) [false, false] ttok Tryd.func8 rfl (Nat.le_of_ble_eq_true rfl) rfl fun fx hfx => WK.top ?_
  simp only [impl, imp, argT, List.append_nil, List.map_nil, List.nil_append, show Tryd.f8.ntmps = 78 from rfl, Nat.zero_add, Nat.reduceAdd]
  repeat' (first
    | refine WK.seq ?_
    | refine WK.reg ?_
    | refine IL.nil ?_
    | refine WK.skip ?_
    | refine WK.block ?_
    | refine WK.exit_here ?_
    | refine WK.exit_out1 (by decide) ?_
    | refine WK.exit_out2 (by decide) (by decide) ?_
    | (with_reducible refine IL.wr ?_ ?_; (focus (first | exact wrap_i64 (by omega) (by omega) | exact wrap_u64 (by omega) (by omega) | exact wrap_u32 (by omega) (by omega) | exact wrap_u16 (by omega) (by omega) | exact wrap_u8 (by omega) (by omega))))
    | (refine IL.stepg (σ' := ?_) ttok (by first | exact .inl rfl | (refine Gok.mk2 (b := ?_) rfl ?_ ?_; rotate_left 1; (focus rfl); (focus (with_reducible rfl)))) (fun K hK => ?_) ?_; rotate_left 1; (focus (simp only [go_sem, reduceIte]; first | exact hK | (and_intros <;> first | exact hK | omega | assumption | rfl | decide))))
    | (refine IL.no (σ' := ?_) (by first | (refine Gno.mkT (b := ?_) rfl ?_ ?_; rotate_left 1; (focus rfl); (focus (with_reducible rfl))) | (refine Gno.mkF (b := ?_) rfl ?_ ?_; rotate_left 1; (focus rfl); (focus (with_reducible rfl))) | exact Gno.mkU rfl rfl) (fun K hK => ?_) ?_; rotate_left 1; (focus (simp only [go_sem, reduceIte]; exact hK)))
    | (refine IL.stepArr (σ' := ?_) ttok (by first | exact .inl rfl | (refine Gok.mk2 (b := ?_) rfl ?_ ?_; rotate_left 1; (focus rfl); (focus (with_reducible rfl)))) (fun K hK => ?_) ?_; rotate_left 1; (focus (simp only [go_sem, reduceIte]; first | exact hK | (and_intros <;> first | exact hK | omega | assumption | rfl | decide))))
    | (refine IL.callS (f := 22) (xs := ?_) (A := ?_) (A' := ?_) (rr := ?_) (σ' := ?_) (bs := ?_) (ks := ?_) (sets := ?_) (pushes := ?_) ttok ent22 [.bor, .bor, .bor] true ?_ ?_ ?_ ?_ ?_ ?_ ?_ ?_ ?_ (fun K hK => ?_) ?_; rotate_left 9; (focus (first | exact .inl rfl | (refine Gok.mk2 (b := ?_) rfl ?_ ?_; rotate_left 1; (focus rfl); (focus (with_reducible rfl))))); (focus rfl); (focus (first | rfl | (simp only [go_sem, reduceIte] <;> rfl))); (focus (refine readNum_call _ _ _ _ ?_ ?_ ?_ ?_ <;> first | omega | assumption | decide | simp)); (focus rfl); (focus rfl); (focus (first | rfl | simp only [go_sem])); (focus (first | rfl | (simp only [go_sem, reduceIte] <;> rfl))); (focus simp); (focus (simp only [go_sem, reduceIte]; exact hK)))
    | (refine IL.callS (f := 23) (xs := ?_) (A := ?_) (A' := ?_) (rr := ?_) (σ' := ?_) (bs := ?_) (ks := ?_) (sets := ?_) (pushes := ?_) ttok ent23 [.bor, .bor] true ?_ ?_ ?_ ?_ ?_ ?_ ?_ ?_ ?_ (fun K hK => ?_) ?_; rotate_left 9; (focus (first | exact .inl rfl | (refine Gok.mk2 (b := ?_) rfl ?_ ?_; rotate_left 1; (focus rfl); (focus (with_reducible rfl))))); (focus rfl); (focus (first | rfl | (simp only [go_sem, reduceIte] <;> rfl))); (focus (refine opRead_call _ _ _ ?_ ?_ ?_ <;> first | omega | assumption | decide | simp)); (focus rfl); (focus rfl); (focus (first | rfl | simp only [go_sem])); (focus (first | rfl | (simp only [go_sem, reduceIte] <;> rfl))); (focus simp); (focus (simp only [go_sem, reduceIte]; exact hK)))
    | ((first | (refine IL.askg (b := ?_) (d := ?_) ?_ ?_ (fun h => ?_) (fun h => ?_); rotate_left 2; (focus rfl); (focus rfl)) | (refine IL.askp (b := ?_) (d := ?_) ?_ ?_ (fun h => ?_) (fun h => ?_); rotate_left 2; (focus rfl); (focus rfl))); (fail_if_success (focus (simp only [reduceCtorEq] at h))); all_goals first | (simp only [Bool.and_eq_true, Bool.and_eq_false_iff, Bool.or_eq_true, Bool.or_eq_false_iff, Bool.not_eq_true', Bool.not_eq_false', beq_iff_eq, beq_eq_false_iff_ne, ne_eq, bne_iff_ne, bne_eq_false_iff_eq, decide_eq_true_eq, decide_eq_false_iff_not, Decidable.not_not] at h; first | done | (exfalso; omega; done) | skip) | skip)
    | (refine WK.cond (b := ?_) ?_ (fun h => ?_) (fun h => ?_); rotate_left 1; (focus rfl); all_goals first | (simp only [reduceCtorEq] at h; done) | (simp only [Bool.and_eq_true, Bool.and_eq_false_iff, Bool.or_eq_true, Bool.or_eq_false_iff, Bool.not_eq_true', Bool.not_eq_false', beq_iff_eq, beq_eq_false_iff_ne, ne_eq, bne_iff_ne, bne_eq_false_iff_eq, decide_eq_true_eq, decide_eq_false_iff_not, Decidable.not_not] at h; first | done | (exfalso; omega; done) | skip) | skip))
  refine WK.whileS (α := Nat × (Nat × Nat × Nat × Nat × Nat) × Nat × Int) (fun x => 5 - x.1) (fun x => x.1 ≤ 5 ∧ x.2.2.1 ≤ l.length ∧ x.2.1.1 ≤ 65535 ∧ x.2.1.2.1 ≤ 268435456 ∧ x.2.1.2.2.1 ≤ 1099511627776 ∧ x.2.1.2.2.2.1 ≤ 7 ∧ x.2.1.2.2.2.2 ≤ 16 ∧ (¬ x.2.2.2 = 0 → bad5 l p x.2.2) ∧
      (x.2.2.2 = 0 → (x.1 = 0 → x.2.2.1 = p) ∧ (x.1 = 1 → rNum l p 0 65535 = (x.2.1.1, x.2.2.1, 0)) ∧ (x.1 = 2 → ∃ p2, rNum l p 0 65535 = (x.2.1.1, p2, 0) ∧ rNum l p2 0 268435456 = (x.2.1.2.1, x.2.2.1, 0)) ∧
        (x.1 = 3 → ∃ p2 p3, rNum l p 0 65535 = (x.2.1.1, p2, 0) ∧ rNum l p2 0 268435456 = (x.2.1.2.1, p3, 0) ∧ rNum l p3 0 1099511627776 = (x.2.1.2.2.1, x.2.2.1, 0)) ∧
        (x.1 = 4 → ∃ p2 p3 p4, rNum l p 0 65535 = (x.2.1.1, p2, 0) ∧ rNum l p2 0 268435456 = (x.2.1.2.1, p3, 0) ∧ rNum l p3 0 1099511627776 = (x.2.1.2.2.1, p4, 0) ∧ rNum l p4 0 7 = (x.2.1.2.2.2.1, x.2.2.1, 0)) ∧ (x.1 = 5 → r5 l p 0 = x.2)))
    (fun x => ⟨78, [(0, .tr l.length (bcells l)), (1, .v (.int .i64 (x.2.2.1 : Int))), (4, .ptr 1 0 0), (7, .ptr 2 0 0), (8, .ptr 3 0 0), (9, .v (.int .i64 x.2.2.2)), (10, .v (.int .i64 (x.1 : Int)))],
      [some ⟨true, 67, 0, false, [], 0, false⟩, some ⟨false, 0, 1, false, txL 0 0 0 0 (.sl 0 0 0 0), 0, false⟩, some ⟨false, 0, 1, false, [.v (.int .u64 65535), .v (.int .u64 268435456), .v (.int .u64 1099511627776), .v (.int .u64 7), .v (.int .u64 16)], 0, false⟩, some ⟨false, 0, 1, false, [.v (.int .u64 (x.2.1.1 : Int)), .v (.int .u64 (x.2.1.2.1 : Int)), .v (.int .u64 (x.2.1.2.2.1 : Int)), .v (.int .u64 (x.2.1.2.2.2.1 : Int)), .v (.int .u64 (x.2.1.2.2.2.2 : Int))], 0, false⟩]⟩) (0, (0, 0, 0, 0, 0), p, 0) ⟨by simp [hp], ?_⟩ ?_
  · (refine Weak.renS [0, 1, 2, 3] hfx rfl ?_ ?_ rfl <;> (simp only [go_sem, reduceIte, exists_eq_left', exists_eq_left, Blk.mk.injEq, txL] <;> (try and_intros) <;> first | rfl | omega))
  · rintro ⟨j, ⟨a, b, c, d, n⟩, r, e⟩ ⟨hj, hr, ha, hb, hc, hd, hn, hne, hz⟩
    simp only at hj hr ha hb hc hd hn hne hz ⊢
    have hG1 : ¬ e = 0 → G = (⟨0, 0, 0, 0, []⟩, r, e) := fun h => by rw [← hG]; exact rTx_bad (hne h) h
    rcases Nat.eq_or_lt_of_le hj with rfl | hj
    · have hG0 : e = 0 → txF a b c d (opsGo l (n - 0) [] r 0) = G := fun h => by
        subst h
        rw [← hG, rTx_r5 ((hz rfl).2.2.2.2.2 rfl)]; rfl
      repeat' (first
        | (refine WK.empRow (σ' := ?_) ttok 5 4 67 rfl rfl rfl rfl ?_ ?_; rotate_left 1; (focus (simp only [go_sem, nilRow, List.set_cons_zero, List.set_cons_succ, List.cons_append, List.nil_append, reduceIte]; rfl)))
        | refine WK.seq ?_
        | refine WK.reg ?_
        | refine IL.nil ?_
        | refine WK.skip ?_
        | refine WK.block ?_
        | refine WK.exit_here ?_
        | refine WK.exit_out1 (by decide) ?_
        | refine WK.exit_out2 (by decide) (by decide) ?_
        | (with_reducible refine IL.wr ?_ ?_; (focus (first | exact wrap_i64 (by omega) (by omega) | exact wrap_u64 (by omega) (by omega) | exact wrap_u32 (by omega) (by omega) | exact wrap_u16 (by omega) (by omega) | exact wrap_u8 (by omega) (by omega))))
        | (refine IL.stepg (σ' := ?_) ttok (by first | exact .inl rfl | (refine Gok.mk2 (b := ?_) rfl ?_ ?_; rotate_left 1; (focus rfl); (focus (with_reducible rfl)))) (fun K hK => ?_) ?_; rotate_left 1; (focus (simp only [go_sem, reduceIte]; first | exact hK | (and_intros <;> first | exact hK | omega | assumption | rfl | decide))))
        | (refine IL.no (σ' := ?_) (by first | (refine Gno.mkT (b := ?_) rfl ?_ ?_; rotate_left 1; (focus rfl); (focus (with_reducible rfl))) | (refine Gno.mkF (b := ?_) rfl ?_ ?_; rotate_left 1; (focus rfl); (focus (with_reducible rfl))) | exact Gno.mkU rfl rfl) (fun K hK => ?_) ?_; rotate_left 1; (focus (simp only [go_sem, reduceIte]; exact hK)))
        | (refine IL.stepArr (σ' := ?_) ttok (by first | exact .inl rfl | (refine Gok.mk2 (b := ?_) rfl ?_ ?_; rotate_left 1; (focus rfl); (focus (with_reducible rfl)))) (fun K hK => ?_) ?_; rotate_left 1; (focus (simp only [go_sem, reduceIte]; first | exact hK | (and_intros <;> first | exact hK | omega | assumption | rfl | decide))))
        | (refine IL.callS (f := 22) (xs := ?_) (A := ?_) (A' := ?_) (rr := ?_) (σ' := ?_) (bs := ?_) (ks := ?_) (sets := ?_) (pushes := ?_) ttok ent22 [.bor, .bor, .bor] true ?_ ?_ ?_ ?_ ?_ ?_ ?_ ?_ ?_ (fun K hK => ?_) ?_; rotate_left 9; (focus (first | exact .inl rfl | (refine Gok.mk2 (b := ?_) rfl ?_ ?_; rotate_left 1; (focus rfl); (focus (with_reducible rfl))))); (focus rfl); (focus (first | rfl | (simp only [go_sem, reduceIte] <;> rfl))); (focus (refine readNum_call _ _ _ _ ?_ ?_ ?_ ?_ <;> first | omega | assumption | decide | simp)); (focus rfl); (focus rfl); (focus (first | rfl | simp only [go_sem])); (focus (first | rfl | (simp only [go_sem, reduceIte] <;> rfl))); (focus simp); (focus (simp only [go_sem, reduceIte]; exact hK)))
        | (refine IL.callS (f := 23) (xs := ?_) (A := ?_) (A' := ?_) (rr := ?_) (σ' := ?_) (bs := ?_) (ks := ?_) (sets := ?_) (pushes := ?_) ttok ent23 [.bor, .bor] true ?_ ?_ ?_ ?_ ?_ ?_ ?_ ?_ ?_ (fun K hK => ?_) ?_; rotate_left 9; (focus (first | exact .inl rfl | (refine Gok.mk2 (b := ?_) rfl ?_ ?_; rotate_left 1; (focus rfl); (focus (with_reducible rfl))))); (focus rfl); (focus (first | rfl | (simp only [go_sem, reduceIte] <;> rfl))); (focus (refine opRead_call _ _ _ ?_ ?_ ?_ <;> first | omega | assumption | decide | simp)); (focus rfl); (focus rfl); (focus (first | rfl | simp only [go_sem])); (focus (first | rfl | (simp only [go_sem, reduceIte] <;> rfl))); (focus simp); (focus (simp only [go_sem, reduceIte]; exact hK)))
        | ((first | (refine IL.askg (b := ?_) (d := ?_) ?_ ?_ (fun h => ?_) (fun h => ?_); rotate_left 2; (focus rfl); (focus rfl)) | (refine IL.askp (b := ?_) (d := ?_) ?_ ?_ (fun h => ?_) (fun h => ?_); rotate_left 2; (focus rfl); (focus rfl))); (fail_if_success (focus (simp only [reduceCtorEq] at h))); all_goals first | (simp only [Bool.and_eq_true, Bool.and_eq_false_iff, Bool.or_eq_true, Bool.or_eq_false_iff, Bool.not_eq_true', Bool.not_eq_false', beq_iff_eq, beq_eq_false_iff_ne, ne_eq, bne_iff_ne, bne_eq_false_iff_eq, decide_eq_true_eq, decide_eq_false_iff_not, Decidable.not_not] at h; first | done | (exfalso; omega; done) | skip) | skip)
        | (refine WK.cond (b := ?_) ?_ (fun h => ?_) (fun h => ?_); rotate_left 1; (focus rfl); all_goals first | (simp only [reduceCtorEq] at h; done) | (simp only [Bool.and_eq_true, Bool.and_eq_false_iff, Bool.or_eq_true, Bool.or_eq_false_iff, Bool.not_eq_true', Bool.not_eq_false', beq_iff_eq, beq_eq_false_iff_ne, ne_eq, bne_iff_ne, bne_eq_false_iff_eq, decide_eq_true_eq, decide_eq_false_iff_not, Decidable.not_not] at h; first | done | (exfalso; omega; done) | skip) | skip))
      refine WK.whileS (α := Nat × List OpV × Nat × Int) (fun x => if x.2.2.2 = 0 then n + 1 - x.1 else 0) (fun x => x.1 ≤ n ∧ x.2.1.length = x.1 ∧ x.2.2.1 ≤ l.length ∧ (x.2.2.2 = 0 → txF a b c d (opsGo l (n - x.1) x.2.1 x.2.2.1 0) = G) ∧ (¬ x.2.2.2 = 0 → G = (⟨0, 0, 0, 0, []⟩, x.2.2)))
        (fun x => ⟨78, [(0, .tr l.length (bcells l)), (1, .v (.int .i64 (x.2.2.1 : Int))), (4, .ptr 1 0 0), (8, .ptr 2 0 0), (9, .v (.int .i64 x.2.2.2)), (11, .ptr 3 0 0), (12, .v (.int .u64 (x.1 : Int)))],
          [some ⟨true, 67, 0, false, [], 0, false⟩, some ⟨false, 0, 1, false, txL 0 0 0 0 (.sl 0 0 0 0), 0, false⟩, some ⟨false, 0, 1, false, [.v (.int .u64 (a : Int)), .v (.int .u64 (b : Int)), .v (.int .u64 (c : Int)), .v (.int .u64 (d : Int)), .v (.int .u64 (n : Int))], 0, false⟩, some ⟨false, 0, 1, false, txL a b c d (.sl 4 0 0 x.2.1.length), 0, false⟩, some ⟨true, 67, x.2.1.length, false, encs opC x.2.1, 0, false⟩]⟩) (0, [], r, e) ⟨⟨Nat.zero_le _, rfl, hr, hG0, hG1⟩, ?_⟩ ?_
      · (refine Weak.renS [0, 1, 3, 5, 6] hfx rfl ?_ ?_ rfl <;> (simp only [go_sem, reduceIte, exists_eq_left', exists_eq_left, Blk.mk.injEq, txL, List.length_nil, encs_nil] <;> (try and_intros) <;> first | rfl | omega))
      · rintro ⟨k, out, r2, e2⟩ ⟨hk, ho, hr2, hg0, hg1⟩
        simp only at hk ho hr2 hg0 hg1 ⊢
        by_cases he2 : e2 = 0
        · subst he2
          have hg := hg0 rfl
          rcases Nat.eq_or_lt_of_le hk with rfl | hk
          · rw [Nat.sub_self, opsGo] at hg
            subst hg
            unfold txF
            rw [if_pos rfl]
            repeat' (first
              | (refine WK.empRow (σ' := ?_) ttok 1 4 67 rfl rfl rfl rfl ?_ ?_; rotate_left 1; (focus (simp only [go_sem, nilRow, List.set_cons_zero, List.set_cons_succ, List.cons_append, List.nil_append, reduceIte]; rfl)))
              | refine WK.seq ?_
              | refine WK.reg ?_
              | refine IL.nil ?_
              | refine WK.skip ?_
              | refine WK.block ?_
              | refine WK.exit_here ?_
              | refine WK.exit_out1 (by decide) ?_
              | refine WK.exit_out2 (by decide) (by decide) ?_
              | (with_reducible refine IL.wr ?_ ?_; (focus (first | exact wrap_i64 (by omega) (by omega) | exact wrap_u64 (by omega) (by omega) | exact wrap_u32 (by omega) (by omega) | exact wrap_u16 (by omega) (by omega) | exact wrap_u8 (by omega) (by omega))))
              | (refine IL.stepg (σ' := ?_) ttok (by first | exact .inl rfl | (refine Gok.mk2 (b := ?_) rfl ?_ ?_; rotate_left 1; (focus rfl); (focus (with_reducible rfl)))) (fun K hK => ?_) ?_; rotate_left 1; (focus (simp only [go_sem, reduceIte]; first | exact hK | (and_intros <;> first | exact hK | omega | assumption | rfl | decide))))
              | (refine IL.no (σ' := ?_) (by first | (refine Gno.mkT (b := ?_) rfl ?_ ?_; rotate_left 1; (focus rfl); (focus (with_reducible rfl))) | (refine Gno.mkF (b := ?_) rfl ?_ ?_; rotate_left 1; (focus rfl); (focus (with_reducible rfl))) | exact Gno.mkU rfl rfl) (fun K hK => ?_) ?_; rotate_left 1; (focus (simp only [go_sem, reduceIte]; exact hK)))
              | (refine IL.stepArr (σ' := ?_) ttok (by first | exact .inl rfl | (refine Gok.mk2 (b := ?_) rfl ?_ ?_; rotate_left 1; (focus rfl); (focus (with_reducible rfl)))) (fun K hK => ?_) ?_; rotate_left 1; (focus (simp only [go_sem, reduceIte]; first | exact hK | (and_intros <;> first | exact hK | omega | assumption | rfl | decide))))
              | (refine IL.callS (f := 22) (xs := ?_) (A := ?_) (A' := ?_) (rr := ?_) (σ' := ?_) (bs := ?_) (ks := ?_) (sets := ?_) (pushes := ?_) ttok ent22 [.bor, .bor, .bor] true ?_ ?_ ?_ ?_ ?_ ?_ ?_ ?_ ?_ (fun K hK => ?_) ?_; rotate_left 9; (focus (first | exact .inl rfl | (refine Gok.mk2 (b := ?_) rfl ?_ ?_; rotate_left 1; (focus rfl); (focus (with_reducible rfl))))); (focus rfl); (focus (first | rfl | (simp only [go_sem, reduceIte] <;> rfl))); (focus (refine readNum_call _ _ _ _ ?_ ?_ ?_ ?_ <;> first | omega | assumption | decide | simp)); (focus rfl); (focus rfl); (focus (first | rfl | simp only [go_sem])); (focus (first | rfl | (simp only [go_sem, reduceIte] <;> rfl))); (focus simp); (focus (simp only [go_sem, reduceIte]; exact hK)))
              | (refine IL.callS (f := 23) (xs := ?_) (A := ?_) (A' := ?_) (rr := ?_) (σ' := ?_) (bs := ?_) (ks := ?_) (sets := ?_) (pushes := ?_) ttok ent23 [.bor, .bor] true ?_ ?_ ?_ ?_ ?_ ?_ ?_ ?_ ?_ (fun K hK => ?_) ?_; rotate_left 9; (focus (first | exact .inl rfl | (refine Gok.mk2 (b := ?_) rfl ?_ ?_; rotate_left 1; (focus rfl); (focus (with_reducible rfl))))); (focus rfl); (focus (first | rfl | (simp only [go_sem, reduceIte] <;> rfl))); (focus (refine opRead_call _ _ _ ?_ ?_ ?_ <;> first | omega | assumption | decide | simp)); (focus rfl); (focus rfl); (focus (first | rfl | simp only [go_sem])); (focus (first | rfl | (simp only [go_sem, reduceIte] <;> rfl))); (focus simp); (focus (simp only [go_sem, reduceIte]; exact hK)))
              | ((first | (refine IL.askg (b := ?_) (d := ?_) ?_ ?_ (fun h => ?_) (fun h => ?_); rotate_left 2; (focus rfl); (focus rfl)) | (refine IL.askp (b := ?_) (d := ?_) ?_ ?_ (fun h => ?_) (fun h => ?_); rotate_left 2; (focus rfl); (focus rfl))); (fail_if_success (focus (simp only [reduceCtorEq] at h))); all_goals first | (simp only [Bool.and_eq_true, Bool.and_eq_false_iff, Bool.or_eq_true, Bool.or_eq_false_iff, Bool.not_eq_true', Bool.not_eq_false', beq_iff_eq, beq_eq_false_iff_ne, ne_eq, bne_iff_ne, bne_eq_false_iff_eq, decide_eq_true_eq, decide_eq_false_iff_not, Decidable.not_not] at h; first | done | (exfalso; omega; done) | skip) | skip)
              | (refine WK.cond (b := ?_) ?_ (fun h => ?_) (fun h => ?_); rotate_left 1; (focus rfl); all_goals first | (simp only [reduceCtorEq] at h; done) | (simp only [Bool.and_eq_true, Bool.and_eq_false_iff, Bool.or_eq_true, Bool.or_eq_false_iff, Bool.not_eq_true', Bool.not_eq_false', beq_iff_eq, beq_eq_false_iff_ne, ne_eq, bne_iff_ne, bne_eq_false_iff_eq, decide_eq_true_eq, decide_eq_false_iff_not, Decidable.not_not] at h; first | done | (exfalso; omega; done) | skip) | skip))
            all_goals try ((first | refine WK.ret ⟨.inr rfl, Fin.of (q' := ?_) (A2 := ?_) (k1 := ?_) (k2 := ?_) ?_ ?_ ?_ ?_ ?_⟩ | refine ⟨.inl rfl, Fin.of (q' := ?_) (A2 := ?_) (k1 := ?_) (k2 := ?_) ?_ ?_ ?_ ?_ ?_⟩ | refine ⟨.inl trivial, Fin.of (q' := ?_) (A2 := ?_) (k1 := ?_) (k2 := ?_) ?_ ?_ ?_ ?_ ?_⟩); rotate_left 4; (focus (first | rfl | (simp only [go_sem, show Tryd.f8.results.toList = [.cell 4 35, .tmp 5, .tmp 6] from rfl, reduceIte] <;> rfl))); (focus (first | rfl | (simp only [go_sem, reduceIte] <;> rfl))); (focus rfl); rotate_left 1; (focus (first | rfl | skip)); all_goals try with_reducible rfl)
            all_goals rfl
          · rw [show n - k = (n - (k + 1)) + 1 by omega, opsGo] at hg
            have hL := rOp_leN l r2 0 hr2
            have hc := opRead_frz l r2 l.length rfl hr2 hl
            rcases hro : rOp l r2 0 with ⟨o, q', e'⟩
            rw [hro] at hg hL hc
            simp only at hg hL hc
            obtain ⟨ok, or, on, om, ot, os, oq⟩ := o
            rw [show opC ⟨ok, or, on, om, ot, os, oq⟩ = [.v (.int .i64 ok), .v (.int .u16 or), .v (.int .u32 on), .v (.int .u32 om), .v (.string ⟨ot.toArray⟩), .tr os.length (encs spC os), .v (.int .u32 oq)] from rfl] at hc
            have hcs : encs opC out ++ [.v (.int .i64 ok), .v (.int .u16 or), .v (.int .u32 on), .v (.int .u32 om), .v (.string ⟨ot.toArray⟩), .tr os.length (encs spC os), .v (.int .u32 oq)] = encs opC (out ++ [⟨ok, or, on, om, ot, os, oq⟩]) := encs_snoc (f := opC) out ⟨ok, or, on, om, ot, os, oq⟩
            have hln : (out ++ [(⟨ok, or, on, om, ot, os, oq⟩ : OpV)]).length = out.length + 1 := by simp
            repeat' (first
              | (refine WK.empRow (σ' := ?_) ttok 1 4 67 rfl rfl rfl rfl ?_ ?_; rotate_left 1; (focus (simp only [go_sem, nilRow, List.set_cons_zero, List.set_cons_succ, List.cons_append, List.nil_append, reduceIte]; rfl)))
              | refine WK.seq ?_
              | refine WK.reg ?_
              | refine IL.nil ?_
              | refine WK.skip ?_
              | refine WK.block ?_
              | refine WK.exit_here ?_
              | refine WK.exit_out1 (by decide) ?_
              | refine WK.exit_out2 (by decide) (by decide) ?_
              | (with_reducible refine IL.wr ?_ ?_; (focus (first | exact wrap_i64 (by omega) (by omega) | exact wrap_u64 (by omega) (by omega) | exact wrap_u32 (by omega) (by omega) | exact wrap_u16 (by omega) (by omega) | exact wrap_u8 (by omega) (by omega))))
              | (refine IL.stepg (σ' := ?_) ttok (by first | exact .inl rfl | (refine Gok.mk2 (b := ?_) rfl ?_ ?_; rotate_left 1; (focus rfl); (focus (with_reducible rfl)))) (fun K hK => ?_) ?_; rotate_left 1; (focus (simp only [go_sem, reduceIte]; first | exact hK | (and_intros <;> first | exact hK | omega | assumption | rfl | decide))))
              | (refine IL.no (σ' := ?_) (by first | (refine Gno.mkT (b := ?_) rfl ?_ ?_; rotate_left 1; (focus rfl); (focus (with_reducible rfl))) | (refine Gno.mkF (b := ?_) rfl ?_ ?_; rotate_left 1; (focus rfl); (focus (with_reducible rfl))) | exact Gno.mkU rfl rfl) (fun K hK => ?_) ?_; rotate_left 1; (focus (simp only [go_sem, reduceIte]; exact hK)))
              | (refine IL.stepArr (σ' := ?_) ttok (by first | exact .inl rfl | (refine Gok.mk2 (b := ?_) rfl ?_ ?_; rotate_left 1; (focus rfl); (focus (with_reducible rfl)))) (fun K hK => ?_) ?_; rotate_left 1; (focus (simp only [go_sem, reduceIte]; first | exact hK | (and_intros <;> first | exact hK | omega | assumption | rfl | decide))))
              | (refine IL.callS (f := 22) (xs := ?_) (A := ?_) (A' := ?_) (rr := ?_) (σ' := ?_) (bs := ?_) (ks := ?_) (sets := ?_) (pushes := ?_) ttok ent22 [.bor, .bor, .bor] true ?_ ?_ ?_ ?_ ?_ ?_ ?_ ?_ ?_ (fun K hK => ?_) ?_; rotate_left 9; (focus (first | exact .inl rfl | (refine Gok.mk2 (b := ?_) rfl ?_ ?_; rotate_left 1; (focus rfl); (focus (with_reducible rfl))))); (focus rfl); (focus (first | rfl | (simp only [go_sem, reduceIte] <;> rfl))); (focus (refine readNum_call _ _ _ _ ?_ ?_ ?_ ?_ <;> first | omega | assumption | decide | simp)); (focus rfl); (focus rfl); (focus (first | rfl | simp only [go_sem])); (focus (first | rfl | (simp only [go_sem, reduceIte] <;> rfl))); (focus simp); (focus (simp only [go_sem, reduceIte]; exact hK)))
              | (refine IL.callS (f := 23) (xs := ?_) (A := ?_) (A' := ?_) (rr := ?_) (σ' := ?_) (bs := ?_) (ks := ?_) (sets := ?_) (pushes := ?_) ttok ent23 [.bor, .bor] false ?_ ?_ ?_ ?_ ?_ ?_ ?_ ?_ ?_ (fun K hK => ?_) ?_; rotate_left 9; (focus (first | exact .inl rfl | (refine Gok.mk2 (b := ?_) rfl ?_ ?_; rotate_left 1; (focus rfl); (focus (with_reducible rfl))))); (focus rfl); (focus (first | rfl | (simp only [go_sem, reduceIte] <;> rfl))); (focus (exact hc)); (focus rfl); (focus rfl); (focus (first | rfl | simp only [go_sem])); (focus (first | rfl | (simp only [go_sem, reduceIte] <;> rfl))); (focus simp); (focus (simp only [go_sem, reduceIte]; exact hK)))
              | ((first | (refine IL.askg (b := ?_) (d := ?_) ?_ ?_ (fun h => ?_) (fun h => ?_); rotate_left 2; (focus rfl); (focus rfl)) | (refine IL.askp (b := ?_) (d := ?_) ?_ ?_ (fun h => ?_) (fun h => ?_); rotate_left 2; (focus rfl); (focus rfl))); (fail_if_success (focus (simp only [reduceCtorEq] at h))); all_goals first | (simp only [Bool.and_eq_true, Bool.and_eq_false_iff, Bool.or_eq_true, Bool.or_eq_false_iff, Bool.not_eq_true', Bool.not_eq_false', beq_iff_eq, beq_eq_false_iff_ne, ne_eq, bne_iff_ne, bne_eq_false_iff_eq, decide_eq_true_eq, decide_eq_false_iff_not, Decidable.not_not] at h; first | done | (exfalso; omega; done) | skip) | skip)
              | (refine WK.cond (b := ?_) ?_ (fun h => ?_) (fun h => ?_); rotate_left 1; (focus rfl); all_goals first | (simp only [reduceCtorEq] at h; done) | (simp only [Bool.and_eq_true, Bool.and_eq_false_iff, Bool.or_eq_true, Bool.or_eq_false_iff, Bool.not_eq_true', Bool.not_eq_false', beq_iff_eq, beq_eq_false_iff_ne, ne_eq, bne_iff_ne, bne_eq_false_iff_eq, decide_eq_true_eq, decide_eq_false_iff_not, Decidable.not_not] at h; first | done | (exfalso; omega; done) | skip) | skip))
            refine ⟨(k + 1, out ++ [⟨ok, or, on, om, ot, os, oq⟩], q', e'), by simp only; split <;> (try simp) <;> omega, ⟨by simp only; omega, by simp only [hln, ho], hL.1, fun h => by simp only at h; subst h; rw [if_pos rfl] at hg; exact hg, fun h => by simp only at h; rw [if_neg h] at hg; rw [← hg]; unfold txF; rw [if_neg h]⟩, ?_⟩
            (refine Weak.renS [0, 1, 2, 3, 4] hfx rfl ?_ ?_ rfl <;> (simp only [go_sem, reduceIte, exists_eq_left', exists_eq_left, Blk.mk.injEq, hcs, hln, txL] <;> (try and_intros) <;> first | rfl | omega))
        · have hg := hg1 he2
          subst hg
          repeat' (first
            | (refine WK.empRow (σ' := ?_) ttok 1 4 67 rfl rfl rfl rfl ?_ ?_; rotate_left 1; (focus (simp only [go_sem, nilRow, List.set_cons_zero, List.set_cons_succ, List.cons_append, List.nil_append, reduceIte]; rfl)))
            | refine WK.seq ?_
            | refine WK.reg ?_
            | refine IL.nil ?_
            | refine WK.skip ?_
            | refine WK.block ?_
            | refine WK.exit_here ?_
            | refine WK.exit_out1 (by decide) ?_
            | refine WK.exit_out2 (by decide) (by decide) ?_
            | (with_reducible refine IL.wr ?_ ?_; (focus (first | exact wrap_i64 (by omega) (by omega) | exact wrap_u64 (by omega) (by omega) | exact wrap_u32 (by omega) (by omega) | exact wrap_u16 (by omega) (by omega) | exact wrap_u8 (by omega) (by omega))))
            | (refine IL.stepg (σ' := ?_) ttok (by first | exact .inl rfl | (refine Gok.mk2 (b := ?_) rfl ?_ ?_; rotate_left 1; (focus rfl); (focus (with_reducible rfl)))) (fun K hK => ?_) ?_; rotate_left 1; (focus (simp only [go_sem, reduceIte]; first | exact hK | (and_intros <;> first | exact hK | omega | assumption | rfl | decide))))
            | (refine IL.no (σ' := ?_) (by first | (refine Gno.mkT (b := ?_) rfl ?_ ?_; rotate_left 1; (focus rfl); (focus (with_reducible rfl))) | (refine Gno.mkF (b := ?_) rfl ?_ ?_; rotate_left 1; (focus rfl); (focus (with_reducible rfl))) | exact Gno.mkU rfl rfl) (fun K hK => ?_) ?_; rotate_left 1; (focus (simp only [go_sem, reduceIte]; exact hK)))
            | (refine IL.stepArr (σ' := ?_) ttok (by first | exact .inl rfl | (refine Gok.mk2 (b := ?_) rfl ?_ ?_; rotate_left 1; (focus rfl); (focus (with_reducible rfl)))) (fun K hK => ?_) ?_; rotate_left 1; (focus (simp only [go_sem, reduceIte]; first | exact hK | (and_intros <;> first | exact hK | omega | assumption | rfl | decide))))
            | (refine IL.callS (f := 22) (xs := ?_) (A := ?_) (A' := ?_) (rr := ?_) (σ' := ?_) (bs := ?_) (ks := ?_) (sets := ?_) (pushes := ?_) ttok ent22 [.bor, .bor, .bor] true ?_ ?_ ?_ ?_ ?_ ?_ ?_ ?_ ?_ (fun K hK => ?_) ?_; rotate_left 9; (focus (first | exact .inl rfl | (refine Gok.mk2 (b := ?_) rfl ?_ ?_; rotate_left 1; (focus rfl); (focus (with_reducible rfl))))); (focus rfl); (focus (first | rfl | (simp only [go_sem, reduceIte] <;> rfl))); (focus (refine readNum_call _ _ _ _ ?_ ?_ ?_ ?_ <;> first | omega | assumption | decide | simp)); (focus rfl); (focus rfl); (focus (first | rfl | simp only [go_sem])); (focus (first | rfl | (simp only [go_sem, reduceIte] <;> rfl))); (focus simp); (focus (simp only [go_sem, reduceIte]; exact hK)))
            | (refine IL.callS (f := 23) (xs := ?_) (A := ?_) (A' := ?_) (rr := ?_) (σ' := ?_) (bs := ?_) (ks := ?_) (sets := ?_) (pushes := ?_) ttok ent23 [.bor, .bor] false ?_ ?_ ?_ ?_ ?_ ?_ ?_ ?_ ?_ (fun K hK => ?_) ?_; rotate_left 9; (focus (first | exact .inl rfl | (refine Gok.mk2 (b := ?_) rfl ?_ ?_; rotate_left 1; (focus rfl); (focus (with_reducible rfl))))); (focus rfl); (focus (first | rfl | (simp only [go_sem, reduceIte] <;> rfl))); (focus (exact hc)); (focus rfl); (focus rfl); (focus (first | rfl | simp only [go_sem])); (focus (first | rfl | (simp only [go_sem, reduceIte] <;> rfl))); (focus simp); (focus (simp only [go_sem, reduceIte]; exact hK)))
            | ((first | (refine IL.askg (b := ?_) (d := ?_) ?_ ?_ (fun h => ?_) (fun h => ?_); rotate_left 2; (focus rfl); (focus rfl)) | (refine IL.askp (b := ?_) (d := ?_) ?_ ?_ (fun h => ?_) (fun h => ?_); rotate_left 2; (focus rfl); (focus rfl))); (fail_if_success (focus (simp only [reduceCtorEq] at h))); all_goals first | (simp only [Bool.and_eq_true, Bool.and_eq_false_iff, Bool.or_eq_true, Bool.or_eq_false_iff, Bool.not_eq_true', Bool.not_eq_false', beq_iff_eq, beq_eq_false_iff_ne, ne_eq, bne_iff_ne, bne_eq_false_iff_eq, decide_eq_true_eq, decide_eq_false_iff_not, Decidable.not_not] at h; first | done | (exfalso; omega; done) | skip) | skip)
            | (refine WK.cond (b := ?_) ?_ (fun h => ?_) (fun h => ?_); rotate_left 1; (focus rfl); all_goals first | (simp only [reduceCtorEq] at h; done) | (simp only [Bool.and_eq_true, Bool.and_eq_false_iff, Bool.or_eq_true, Bool.or_eq_false_iff, Bool.not_eq_true', Bool.not_eq_false', beq_iff_eq, beq_eq_false_iff_ne, ne_eq, bne_iff_ne, bne_eq_false_iff_eq, decide_eq_true_eq, decide_eq_false_iff_not, Decidable.not_not] at h; first | done | (exfalso; omega; done) | skip) | skip))
          all_goals try ((first | refine WK.ret ⟨.inr rfl, Fin.of (q' := ?_) (A2 := ?_) (k1 := ?_) (k2 := ?_) ?_ ?_ ?_ ?_ ?_⟩ | refine ⟨.inl rfl, Fin.of (q' := ?_) (A2 := ?_) (k1 := ?_) (k2 := ?_) ?_ ?_ ?_ ?_ ?_⟩ | refine ⟨.inl trivial, Fin.of (q' := ?_) (A2 := ?_) (k1 := ?_) (k2 := ?_) ?_ ?_ ?_ ?_ ?_⟩); rotate_left 4; (focus (first | rfl | (simp only [go_sem, show Tryd.f8.results.toList = [.cell 4 35, .tmp 5, .tmp 6] from rfl, reduceIte] <;> rfl))); (focus (first | rfl | (simp only [go_sem, reduceIte] <;> rfl))); (focus rfl); rotate_left 1; (focus (first | rfl | skip)); all_goals try with_reducible rfl)
          all_goals rfl
    · by_cases he : e = 0
      · subst he
        obtain ⟨z0, z1, z2, z3, z4, _⟩ := hz rfl
        obtain rfl | rfl | rfl | rfl | rfl : j = 0 ∨ j = 1 ∨ j = 2 ∨ j = 3 ∨ j = 4 := by omega
        · obtain rfl := z0 rfl
          have hA := rNum_le l r 0 65535 hr
          rcases hra : rNum l r 0 65535 with ⟨a', q1, e1⟩
          rw [hra] at hA
          simp only at hA
          repeat' (first
            | (refine WK.empRow (σ' := ?_) ttok 1 4 67 rfl rfl rfl rfl ?_ ?_; rotate_left 1; (focus (simp only [go_sem, nilRow, List.set_cons_zero, List.set_cons_succ, List.cons_append, List.nil_append, reduceIte]; rfl)))
            | refine WK.seq ?_
            | refine WK.reg ?_
            | refine IL.nil ?_
            | refine WK.skip ?_
            | refine WK.block ?_
            | refine WK.exit_here ?_
            | refine WK.exit_out1 (by decide) ?_
            | refine WK.exit_out2 (by decide) (by decide) ?_
            | (with_reducible refine IL.wr ?_ ?_; (focus (first | exact wrap_i64 (by omega) (by omega) | exact wrap_u64 (by omega) (by omega) | exact wrap_u32 (by omega) (by omega) | exact wrap_u16 (by omega) (by omega) | exact wrap_u8 (by omega) (by omega))))
            | (refine IL.stepg (σ' := ?_) ttok (by first | exact .inl rfl | (refine Gok.mk2 (b := ?_) rfl ?_ ?_; rotate_left 1; (focus rfl); (focus (with_reducible rfl)))) (fun K hK => ?_) ?_; rotate_left 1; (focus (simp only [go_sem, reduceIte, hra]; first | exact hK | (and_intros <;> first | exact hK | omega | assumption | rfl | decide))))
            | (refine IL.no (σ' := ?_) (by first | (refine Gno.mkT (b := ?_) rfl ?_ ?_; rotate_left 1; (focus rfl); (focus (with_reducible rfl))) | (refine Gno.mkF (b := ?_) rfl ?_ ?_; rotate_left 1; (focus rfl); (focus (with_reducible rfl))) | exact Gno.mkU rfl rfl) (fun K hK => ?_) ?_; rotate_left 1; (focus (simp only [go_sem, reduceIte]; exact hK)))
            | (refine IL.stepArr (σ' := ?_) ttok (by first | exact .inl rfl | (refine Gok.mk2 (b := ?_) rfl ?_ ?_; rotate_left 1; (focus rfl); (focus (with_reducible rfl)))) (fun K hK => ?_) ?_; rotate_left 1; (focus (simp only [go_sem, reduceIte, hra]; first | exact hK | (and_intros <;> first | exact hK | omega | assumption | rfl | decide))))
            | (refine IL.callS (f := 22) (xs := ?_) (A := ?_) (A' := ?_) (rr := ?_) (σ' := ?_) (bs := ?_) (ks := ?_) (sets := ?_) (pushes := ?_) ttok ent22 [.bor, .bor, .bor] true ?_ ?_ ?_ ?_ ?_ ?_ ?_ ?_ ?_ (fun K hK => ?_) ?_; rotate_left 9; (focus (first | exact .inl rfl | (refine Gok.mk2 (b := ?_) rfl ?_ ?_; rotate_left 1; (focus rfl); (focus (with_reducible rfl))))); (focus rfl); (focus (first | rfl | (simp only [go_sem, reduceIte, hra] <;> rfl))); (focus (refine readNum_call _ _ _ _ ?_ ?_ ?_ ?_ <;> first | omega | assumption | decide | simp)); (focus rfl); (focus rfl); (focus (first | rfl | simp only [go_sem])); (focus (first | rfl | (simp only [go_sem, reduceIte, hra] <;> rfl))); (focus simp); (focus (simp only [go_sem, reduceIte, hra]; exact hK)))
            | (refine IL.callS (f := 23) (xs := ?_) (A := ?_) (A' := ?_) (rr := ?_) (σ' := ?_) (bs := ?_) (ks := ?_) (sets := ?_) (pushes := ?_) ttok ent23 [.bor, .bor] false ?_ ?_ ?_ ?_ ?_ ?_ ?_ ?_ ?_ (fun K hK => ?_) ?_; rotate_left 9; (focus (first | exact .inl rfl | (refine Gok.mk2 (b := ?_) rfl ?_ ?_; rotate_left 1; (focus rfl); (focus (with_reducible rfl))))); (focus rfl); (focus (first | rfl | (simp only [go_sem, reduceIte, hra] <;> rfl))); (focus (exact hc)); (focus rfl); (focus rfl); (focus (first | rfl | simp only [go_sem])); (focus (first | rfl | (simp only [go_sem, reduceIte, hra] <;> rfl))); (focus simp); (focus (simp only [go_sem, reduceIte, hra]; exact hK)))
            | ((first | (refine IL.askg (b := ?_) (d := ?_) ?_ ?_ (fun h => ?_) (fun h => ?_); rotate_left 2; (focus rfl); (focus rfl)) | (refine IL.askp (b := ?_) (d := ?_) ?_ ?_ (fun h => ?_) (fun h => ?_); rotate_left 2; (focus rfl); (focus rfl))); (fail_if_success (focus (simp only [reduceCtorEq] at h))); all_goals first | (simp only [Bool.and_eq_true, Bool.and_eq_false_iff, Bool.or_eq_true, Bool.or_eq_false_iff, Bool.not_eq_true', Bool.not_eq_false', beq_iff_eq, beq_eq_false_iff_ne, ne_eq, bne_iff_ne, bne_eq_false_iff_eq, decide_eq_true_eq, decide_eq_false_iff_not, Decidable.not_not] at h; first | done | (exfalso; omega; done) | skip) | skip)
            | (refine WK.cond (b := ?_) ?_ (fun h => ?_) (fun h => ?_); rotate_left 1; (focus rfl); all_goals first | (simp only [reduceCtorEq] at h; done) | (simp only [Bool.and_eq_true, Bool.and_eq_false_iff, Bool.or_eq_true, Bool.or_eq_false_iff, Bool.not_eq_true', Bool.not_eq_false', beq_iff_eq, beq_eq_false_iff_ne, ne_eq, bne_iff_ne, bne_eq_false_iff_eq, decide_eq_true_eq, decide_eq_false_iff_not, Decidable.not_not] at h; first | done | (exfalso; omega; done) | skip) | skip))
          refine ⟨(1, (a', b, c, d, n), q1, e1), by simp, ⟨by simp, hA.2, hA.1, hb, hc, hd, hn, fun h => r5_err0  hra h, fun h => by
            simp only at h
            subst h
            simp [hra]⟩, ?_⟩
          (refine Weak.renS [0, 1, 2, 3] hfx rfl ?_ ?_ rfl <;> (simp only [go_sem, reduceIte, exists_eq_left', exists_eq_left, Blk.mk.injEq, txL] <;> (try and_intros) <;> first | rfl | omega))
        · have w1 := z1 rfl
          have hA := rNum_le l r 0 268435456 hr
          rcases hra : rNum l r 0 268435456 with ⟨b', q1, e1⟩
          rw [hra] at hA
          simp only at hA
          repeat' (first
            | (refine WK.empRow (σ' := ?_) ttok 1 4 67 rfl rfl rfl rfl ?_ ?_; rotate_left 1; (focus (simp only [go_sem, nilRow, List.set_cons_zero, List.set_cons_succ, List.cons_append, List.nil_append, reduceIte]; rfl)))
            | refine WK.seq ?_
            | refine WK.reg ?_
            | refine IL.nil ?_
            | refine WK.skip ?_
            | refine WK.block ?_
            | refine WK.exit_here ?_
            | refine WK.exit_out1 (by decide) ?_
            | refine WK.exit_out2 (by decide) (by decide) ?_
            | (with_reducible refine IL.wr ?_ ?_; (focus (first | exact wrap_i64 (by omega) (by omega) | exact wrap_u64 (by omega) (by omega) | exact wrap_u32 (by omega) (by omega) | exact wrap_u16 (by omega) (by omega) | exact wrap_u8 (by omega) (by omega))))
            | (refine IL.stepg (σ' := ?_) ttok (by first | exact .inl rfl | (refine Gok.mk2 (b := ?_) rfl ?_ ?_; rotate_left 1; (focus rfl); (focus (with_reducible rfl)))) (fun K hK => ?_) ?_; rotate_left 1; (focus (simp only [go_sem, reduceIte, hra]; first | exact hK | (and_intros <;> first | exact hK | omega | assumption | rfl | decide))))
            | (refine IL.no (σ' := ?_) (by first | (refine Gno.mkT (b := ?_) rfl ?_ ?_; rotate_left 1; (focus rfl); (focus (with_reducible rfl))) | (refine Gno.mkF (b := ?_) rfl ?_ ?_; rotate_left 1; (focus rfl); (focus (with_reducible rfl))) | exact Gno.mkU rfl rfl) (fun K hK => ?_) ?_; rotate_left 1; (focus (simp only [go_sem, reduceIte]; exact hK)))
            | (refine IL.stepArr (σ' := ?_) ttok (by first | exact .inl rfl | (refine Gok.mk2 (b := ?_) rfl ?_ ?_; rotate_left 1; (focus rfl); (focus (with_reducible rfl)))) (fun K hK => ?_) ?_; rotate_left 1; (focus (simp only [go_sem, reduceIte, hra]; first | exact hK | (and_intros <;> first | exact hK | omega | assumption | rfl | decide))))
            | (refine IL.callS (f := 22) (xs := ?_) (A := ?_) (A' := ?_) (rr := ?_) (σ' := ?_) (bs := ?_) (ks := ?_) (sets := ?_) (pushes := ?_) ttok ent22 [.bor, .bor, .bor] true ?_ ?_ ?_ ?_ ?_ ?_ ?_ ?_ ?_ (fun K hK => ?_) ?_; rotate_left 9; (focus (first | exact .inl rfl | (refine Gok.mk2 (b := ?_) rfl ?_ ?_; rotate_left 1; (focus rfl); (focus (with_reducible rfl))))); (focus rfl); (focus (first | rfl | (simp only [go_sem, reduceIte, hra] <;> rfl))); (focus (refine readNum_call _ _ _ _ ?_ ?_ ?_ ?_ <;> first | omega | assumption | decide | simp)); (focus rfl); (focus rfl); (focus (first | rfl | simp only [go_sem])); (focus (first | rfl | (simp only [go_sem, reduceIte, hra] <;> rfl))); (focus simp); (focus (simp only [go_sem, reduceIte, hra]; exact hK)))
            | (refine IL.callS (f := 23) (xs := ?_) (A := ?_) (A' := ?_) (rr := ?_) (σ' := ?_) (bs := ?_) (ks := ?_) (sets := ?_) (pushes := ?_) ttok ent23 [.bor, .bor] false ?_ ?_ ?_ ?_ ?_ ?_ ?_ ?_ ?_ (fun K hK => ?_) ?_; rotate_left 9; (focus (first | exact .inl rfl | (refine Gok.mk2 (b := ?_) rfl ?_ ?_; rotate_left 1; (focus rfl); (focus (with_reducible rfl))))); (focus rfl); (focus (first | rfl | (simp only [go_sem, reduceIte, hra] <;> rfl))); (focus (exact hc)); (focus rfl); (focus rfl); (focus (first | rfl | simp only [go_sem])); (focus (first | rfl | (simp only [go_sem, reduceIte, hra] <;> rfl))); (focus simp); (focus (simp only [go_sem, reduceIte, hra]; exact hK)))
            | ((first | (refine IL.askg (b := ?_) (d := ?_) ?_ ?_ (fun h => ?_) (fun h => ?_); rotate_left 2; (focus rfl); (focus rfl)) | (refine IL.askp (b := ?_) (d := ?_) ?_ ?_ (fun h => ?_) (fun h => ?_); rotate_left 2; (focus rfl); (focus rfl))); (fail_if_success (focus (simp only [reduceCtorEq] at h))); all_goals first | (simp only [Bool.and_eq_true, Bool.and_eq_false_iff, Bool.or_eq_true, Bool.or_eq_false_iff, Bool.not_eq_true', Bool.not_eq_false', beq_iff_eq, beq_eq_false_iff_ne, ne_eq, bne_iff_ne, bne_eq_false_iff_eq, decide_eq_true_eq, decide_eq_false_iff_not, Decidable.not_not] at h; first | done | (exfalso; omega; done) | skip) | skip)
            | (refine WK.cond (b := ?_) ?_ (fun h => ?_) (fun h => ?_); rotate_left 1; (focus rfl); all_goals first | (simp only [reduceCtorEq] at h; done) | (simp only [Bool.and_eq_true, Bool.and_eq_false_iff, Bool.or_eq_true, Bool.or_eq_false_iff, Bool.not_eq_true', Bool.not_eq_false', beq_iff_eq, beq_eq_false_iff_ne, ne_eq, bne_iff_ne, bne_eq_false_iff_eq, decide_eq_true_eq, decide_eq_false_iff_not, Decidable.not_not] at h; first | done | (exfalso; omega; done) | skip) | skip))
          refine ⟨(2, (a, b', c, d, n), q1, e1), by simp, ⟨by simp, hA.2, ha, hA.1, hc, hd, hn, fun h => r5_err1 w1 hra h, fun h => by
            simp only at h
            subst h
            simp; exact ⟨_, w1, hra⟩⟩, ?_⟩
          (refine Weak.renS [0, 1, 2, 3] hfx rfl ?_ ?_ rfl <;> (simp only [go_sem, reduceIte, exists_eq_left', exists_eq_left, Blk.mk.injEq, txL] <;> (try and_intros) <;> first | rfl | omega))
        · obtain ⟨p2, w1, w2⟩ := z2 rfl
          have hA := rNum_le l r 0 1099511627776 hr
          rcases hra : rNum l r 0 1099511627776 with ⟨c', q1, e1⟩
          rw [hra] at hA
          simp only at hA
          repeat' (first
            | (refine WK.empRow (σ' := ?_) ttok 1 4 67 rfl rfl rfl rfl ?_ ?_; rotate_left 1; (focus (simp only [go_sem, nilRow, List.set_cons_zero, List.set_cons_succ, List.cons_append, List.nil_append, reduceIte]; rfl)))
            | refine WK.seq ?_
            | refine WK.reg ?_
            | refine IL.nil ?_
            | refine WK.skip ?_
            | refine WK.block ?_
            | refine WK.exit_here ?_
            | refine WK.exit_out1 (by decide) ?_
            | refine WK.exit_out2 (by decide) (by decide) ?_
            | (with_reducible refine IL.wr ?_ ?_; (focus (first | exact wrap_i64 (by omega) (by omega) | exact wrap_u64 (by omega) (by omega) | exact wrap_u32 (by omega) (by omega) | exact wrap_u16 (by omega) (by omega) | exact wrap_u8 (by omega) (by omega))))
            | (refine IL.stepg (σ' := ?_) ttok (by first | exact .inl rfl | (refine Gok.mk2 (b := ?_) rfl ?_ ?_; rotate_left 1; (focus rfl); (focus (with_reducible rfl)))) (fun K hK => ?_) ?_; rotate_left 1; (focus (simp only [go_sem, reduceIte, hra]; first | exact hK | (and_intros <;> first | exact hK | omega | assumption | rfl | decide))))
            | (refine IL.no (σ' := ?_) (by first | (refine Gno.mkT (b := ?_) rfl ?_ ?_; rotate_left 1; (focus rfl); (focus (with_reducible rfl))) | (refine Gno.mkF (b := ?_) rfl ?_ ?_; rotate_left 1; (focus rfl); (focus (with_reducible rfl))) | exact Gno.mkU rfl rfl) (fun K hK => ?_) ?_; rotate_left 1; (focus (simp only [go_sem, reduceIte]; exact hK)))
            | (refine IL.stepArr (σ' := ?_) ttok (by first | exact .inl rfl | (refine Gok.mk2 (b := ?_) rfl ?_ ?_; rotate_left 1; (focus rfl); (focus (with_reducible rfl)))) (fun K hK => ?_) ?_; rotate_left 1; (focus (simp only [go_sem, reduceIte, hra]; first | exact hK | (and_intros <;> first | exact hK | omega | assumption | rfl | decide))))
            | (refine IL.callS (f := 22) (xs := ?_) (A := ?_) (A' := ?_) (rr := ?_) (σ' := ?_) (bs := ?_) (ks := ?_) (sets := ?_) (pushes := ?_) ttok ent22 [.bor, .bor, .bor] true ?_ ?_ ?_ ?_ ?_ ?_ ?_ ?_ ?_ (fun K hK => ?_) ?_; rotate_left 9; (focus (first | exact .inl rfl | (refine Gok.mk2 (b := ?_) rfl ?_ ?_; rotate_left 1; (focus rfl); (focus (with_reducible rfl))))); (focus rfl); (focus (first | rfl | (simp only [go_sem, reduceIte, hra] <;> rfl))); (focus (refine readNum_call _ _ _ _ ?_ ?_ ?_ ?_ <;> first | omega | assumption | decide | simp)); (focus rfl); (focus rfl); (focus (first | rfl | simp only [go_sem])); (focus (first | rfl | (simp only [go_sem, reduceIte, hra] <;> rfl))); (focus simp); (focus (simp only [go_sem, reduceIte, hra]; exact hK)))
            | (refine IL.callS (f := 23) (xs := ?_) (A := ?_) (A' := ?_) (rr := ?_) (σ' := ?_) (bs := ?_) (ks := ?_) (sets := ?_) (pushes := ?_) ttok ent23 [.bor, .bor] false ?_ ?_ ?_ ?_ ?_ ?_ ?_ ?_ ?_ (fun K hK => ?_) ?_; rotate_left 9; (focus (first | exact .inl rfl | (refine Gok.mk2 (b := ?_) rfl ?_ ?_; rotate_left 1; (focus rfl); (focus (with_reducible rfl))))); (focus rfl); (focus (first | rfl | (simp only [go_sem, reduceIte, hra] <;> rfl))); (focus (exact hc)); (focus rfl); (focus rfl); (focus (first | rfl | simp only [go_sem])); (focus (first | rfl | (simp only [go_sem, reduceIte, hra] <;> rfl))); (focus simp); (focus (simp only [go_sem, reduceIte, hra]; exact hK)))
            | ((first | (refine IL.askg (b := ?_) (d := ?_) ?_ ?_ (fun h => ?_) (fun h => ?_); rotate_left 2; (focus rfl); (focus rfl)) | (refine IL.askp (b := ?_) (d := ?_) ?_ ?_ (fun h => ?_) (fun h => ?_); rotate_left 2; (focus rfl); (focus rfl))); (fail_if_success (focus (simp only [reduceCtorEq] at h))); all_goals first | (simp only [Bool.and_eq_true, Bool.and_eq_false_iff, Bool.or_eq_true, Bool.or_eq_false_iff, Bool.not_eq_true', Bool.not_eq_false', beq_iff_eq, beq_eq_false_iff_ne, ne_eq, bne_iff_ne, bne_eq_false_iff_eq, decide_eq_true_eq, decide_eq_false_iff_not, Decidable.not_not] at h; first | done | (exfalso; omega; done) | skip) | skip)
            | (refine WK.cond (b := ?_) ?_ (fun h => ?_) (fun h => ?_); rotate_left 1; (focus rfl); all_goals first | (simp only [reduceCtorEq] at h; done) | (simp only [Bool.and_eq_true, Bool.and_eq_false_iff, Bool.or_eq_true, Bool.or_eq_false_iff, Bool.not_eq_true', Bool.not_eq_false', beq_iff_eq, beq_eq_false_iff_ne, ne_eq, bne_iff_ne, bne_eq_false_iff_eq, decide_eq_true_eq, decide_eq_false_iff_not, Decidable.not_not] at h; first | done | (exfalso; omega; done) | skip) | skip))
          refine ⟨(3, (a, b, c', d, n), q1, e1), by simp, ⟨by simp, hA.2, ha, hb, hA.1, hd, hn, fun h => r5_err2 w1 w2 hra h, fun h => by
            simp only at h
            subst h
            simp; exact ⟨_, w1, _, w2, hra⟩⟩, ?_⟩
          (refine Weak.renS [0, 1, 2, 3] hfx rfl ?_ ?_ rfl <;> (simp only [go_sem, reduceIte, exists_eq_left', exists_eq_left, Blk.mk.injEq, txL] <;> (try and_intros) <;> first | rfl | omega))
        · obtain ⟨p2, p3, w1, w2, w3⟩ := z3 rfl
          have hA := rNum_le l r 0 7 hr
          rcases hra : rNum l r 0 7 with ⟨d', q1, e1⟩
          rw [hra] at hA
          simp only at hA
          repeat' (first
            | (refine WK.empRow (σ' := ?_) ttok 1 4 67 rfl rfl rfl rfl ?_ ?_; rotate_left 1; (focus (simp only [go_sem, nilRow, List.set_cons_zero, List.set_cons_succ, List.cons_append, List.nil_append, reduceIte]; rfl)))
            | refine WK.seq ?_
            | refine WK.reg ?_
            | refine IL.nil ?_
            | refine WK.skip ?_
            | refine WK.block ?_
            | refine WK.exit_here ?_
            | refine WK.exit_out1 (by decide) ?_
            | refine WK.exit_out2 (by decide) (by decide) ?_
            | (with_reducible refine IL.wr ?_ ?_; (focus (first | exact wrap_i64 (by omega) (by omega) | exact wrap_u64 (by omega) (by omega) | exact wrap_u32 (by omega) (by omega) | exact wrap_u16 (by omega) (by omega) | exact wrap_u8 (by omega) (by omega))))
            | (refine IL.stepg (σ' := ?_) ttok (by first | exact .inl rfl | (refine Gok.mk2 (b := ?_) rfl ?_ ?_; rotate_left 1; (focus rfl); (focus (with_reducible rfl)))) (fun K hK => ?_) ?_; rotate_left 1; (focus (simp only [go_sem, reduceIte, hra]; first | exact hK | (and_intros <;> first | exact hK | omega | assumption | rfl | decide))))
            | (refine IL.no (σ' := ?_) (by first | (refine Gno.mkT (b := ?_) rfl ?_ ?_; rotate_left 1; (focus rfl); (focus (with_reducible rfl))) | (refine Gno.mkF (b := ?_) rfl ?_ ?_; rotate_left 1; (focus rfl); (focus (with_reducible rfl))) | exact Gno.mkU rfl rfl) (fun K hK => ?_) ?_; rotate_left 1; (focus (simp only [go_sem, reduceIte]; exact hK)))
            | (refine IL.stepArr (σ' := ?_) ttok (by first | exact .inl rfl | (refine Gok.mk2 (b := ?_) rfl ?_ ?_; rotate_left 1; (focus rfl); (focus (with_reducible rfl)))) (fun K hK => ?_) ?_; rotate_left 1; (focus (simp only [go_sem, reduceIte, hra]; first | exact hK | (and_intros <;> first | exact hK | omega | assumption | rfl | decide))))
            | (refine IL.callS (f := 22) (xs := ?_) (A := ?_) (A' := ?_) (rr := ?_) (σ' := ?_) (bs := ?_) (ks := ?_) (sets := ?_) (pushes := ?_) ttok ent22 [.bor, .bor, .bor] true ?_ ?_ ?_ ?_ ?_ ?_ ?_ ?_ ?_ (fun K hK => ?_) ?_; rotate_left 9; (focus (first | exact .inl rfl | (refine Gok.mk2 (b := ?_) rfl ?_ ?_; rotate_left 1; (focus rfl); (focus (with_reducible rfl))))); (focus rfl); (focus (first | rfl | (simp only [go_sem, reduceIte, hra] <;> rfl))); (focus (refine readNum_call _ _ _ _ ?_ ?_ ?_ ?_ <;> first | omega | assumption | decide | simp)); (focus rfl); (focus rfl); (focus (first | rfl | simp only [go_sem])); (focus (first | rfl | (simp only [go_sem, reduceIte, hra] <;> rfl))); (focus simp); (focus (simp only [go_sem, reduceIte, hra]; exact hK)))
            | (refine IL.callS (f := 23) (xs := ?_) (A := ?_) (A' := ?_) (rr := ?_) (σ' := ?_) (bs := ?_) (ks := ?_) (sets := ?_) (pushes := ?_) ttok ent23 [.bor, .bor] false ?_ ?_ ?_ ?_ ?_ ?_ ?_ ?_ ?_ (fun K hK => ?_) ?_; rotate_left 9; (focus (first | exact .inl rfl | (refine Gok.mk2 (b := ?_) rfl ?_ ?_; rotate_left 1; (focus rfl); (focus (with_reducible rfl))))); (focus rfl); (focus (first | rfl | (simp only [go_sem, reduceIte, hra] <;> rfl))); (focus (exact hc)); (focus rfl); (focus rfl); (focus (first | rfl | simp only [go_sem])); (focus (first | rfl | (simp only [go_sem, reduceIte, hra] <;> rfl))); (focus simp); (focus (simp only [go_sem, reduceIte, hra]; exact hK)))
            | ((first | (refine IL.askg (b := ?_) (d := ?_) ?_ ?_ (fun h => ?_) (fun h => ?_); rotate_left 2; (focus rfl); (focus rfl)) | (refine IL.askp (b := ?_) (d := ?_) ?_ ?_ (fun h => ?_) (fun h => ?_); rotate_left 2; (focus rfl); (focus rfl))); (fail_if_success (focus (simp only [reduceCtorEq] at h))); all_goals first | (simp only [Bool.and_eq_true, Bool.and_eq_false_iff, Bool.or_eq_true, Bool.or_eq_false_iff, Bool.not_eq_true', Bool.not_eq_false', beq_iff_eq, beq_eq_false_iff_ne, ne_eq, bne_iff_ne, bne_eq_false_iff_eq, decide_eq_true_eq, decide_eq_false_iff_not, Decidable.not_not] at h; first | done | (exfalso; omega; done) | skip) | skip)
            | (refine WK.cond (b := ?_) ?_ (fun h => ?_) (fun h => ?_); rotate_left 1; (focus rfl); all_goals first | (simp only [reduceCtorEq] at h; done) | (simp only [Bool.and_eq_true, Bool.and_eq_false_iff, Bool.or_eq_true, Bool.or_eq_false_iff, Bool.not_eq_true', Bool.not_eq_false', beq_iff_eq, beq_eq_false_iff_ne, ne_eq, bne_iff_ne, bne_eq_false_iff_eq, decide_eq_true_eq, decide_eq_false_iff_not, Decidable.not_not] at h; first | done | (exfalso; omega; done) | skip) | skip))
          refine ⟨(4, (a, b, c, d', n), q1, e1), by simp, ⟨by simp, hA.2, ha, hb, hc, hA.1, hn, fun h => r5_err3 w1 w2 w3 hra h, fun h => by
            simp only at h
            subst h
            simp; exact ⟨_, w1, _, w2, _, w3, hra⟩⟩, ?_⟩
          (refine Weak.renS [0, 1, 2, 3] hfx rfl ?_ ?_ rfl <;> (simp only [go_sem, reduceIte, exists_eq_left', exists_eq_left, Blk.mk.injEq, txL] <;> (try and_intros) <;> first | rfl | omega))
        · obtain ⟨p2, p3, p4, w1, w2, w3, w4⟩ := z4 rfl
          have hA := rNum_le l r 0 16 hr
          rcases hra : rNum l r 0 16 with ⟨n', q1, e1⟩
          rw [hra] at hA
          simp only at hA
          repeat' (first
            | (refine WK.empRow (σ' := ?_) ttok 1 4 67 rfl rfl rfl rfl ?_ ?_; rotate_left 1; (focus (simp only [go_sem, nilRow, List.set_cons_zero, List.set_cons_succ, List.cons_append, List.nil_append, reduceIte]; rfl)))
            | refine WK.seq ?_
            | refine WK.reg ?_
            | refine IL.nil ?_
            | refine WK.skip ?_
            | refine WK.block ?_
            | refine WK.exit_here ?_
            | refine WK.exit_out1 (by decide) ?_
            | refine WK.exit_out2 (by decide) (by decide) ?_
            | (with_reducible refine IL.wr ?_ ?_; (focus (first | exact wrap_i64 (by omega) (by omega) | exact wrap_u64 (by omega) (by omega) | exact wrap_u32 (by omega) (by omega) | exact wrap_u16 (by omega) (by omega) | exact wrap_u8 (by omega) (by omega))))
            | (refine IL.stepg (σ' := ?_) ttok (by first | exact .inl rfl | (refine Gok.mk2 (b := ?_) rfl ?_ ?_; rotate_left 1; (focus rfl); (focus (with_reducible rfl)))) (fun K hK => ?_) ?_; rotate_left 1; (focus (simp only [go_sem, reduceIte, hra]; first | exact hK | (and_intros <;> first | exact hK | omega | assumption | rfl | decide))))
            | (refine IL.no (σ' := ?_) (by first | (refine Gno.mkT (b := ?_) rfl ?_ ?_; rotate_left 1; (focus rfl); (focus (with_reducible rfl))) | (refine Gno.mkF (b := ?_) rfl ?_ ?_; rotate_left 1; (focus rfl); (focus (with_reducible rfl))) | exact Gno.mkU rfl rfl) (fun K hK => ?_) ?_; rotate_left 1; (focus (simp only [go_sem, reduceIte]; exact hK)))
            | (refine IL.stepArr (σ' := ?_) ttok (by first | exact .inl rfl | (refine Gok.mk2 (b := ?_) rfl ?_ ?_; rotate_left 1; (focus rfl); (focus (with_reducible rfl)))) (fun K hK => ?_) ?_; rotate_left 1; (focus (simp only [go_sem, reduceIte, hra]; first | exact hK | (and_intros <;> first | exact hK | omega | assumption | rfl | decide))))
            | (refine IL.callS (f := 22) (xs := ?_) (A := ?_) (A' := ?_) (rr := ?_) (σ' := ?_) (bs := ?_) (ks := ?_) (sets := ?_) (pushes := ?_) ttok ent22 [.bor, .bor, .bor] true ?_ ?_ ?_ ?_ ?_ ?_ ?_ ?_ ?_ (fun K hK => ?_) ?_; rotate_left 9; (focus (first | exact .inl rfl | (refine Gok.mk2 (b := ?_) rfl ?_ ?_; rotate_left 1; (focus rfl); (focus (with_reducible rfl))))); (focus rfl); (focus (first | rfl | (simp only [go_sem, reduceIte, hra] <;> rfl))); (focus (refine readNum_call _ _ _ _ ?_ ?_ ?_ ?_ <;> first | omega | assumption | decide | simp)); (focus rfl); (focus rfl); (focus (first | rfl | simp only [go_sem])); (focus (first | rfl | (simp only [go_sem, reduceIte, hra] <;> rfl))); (focus simp); (focus (simp only [go_sem, reduceIte, hra]; exact hK)))
            | (refine IL.callS (f := 23) (xs := ?_) (A := ?_) (A' := ?_) (rr := ?_) (σ' := ?_) (bs := ?_) (ks := ?_) (sets := ?_) (pushes := ?_) ttok ent23 [.bor, .bor] false ?_ ?_ ?_ ?_ ?_ ?_ ?_ ?_ ?_ (fun K hK => ?_) ?_; rotate_left 9; (focus (first | exact .inl rfl | (refine Gok.mk2 (b := ?_) rfl ?_ ?_; rotate_left 1; (focus rfl); (focus (with_reducible rfl))))); (focus rfl); (focus (first | rfl | (simp only [go_sem, reduceIte, hra] <;> rfl))); (focus (exact hc)); (focus rfl); (focus rfl); (focus (first | rfl | simp only [go_sem])); (focus (first | rfl | (simp only [go_sem, reduceIte, hra] <;> rfl))); (focus simp); (focus (simp only [go_sem, reduceIte, hra]; exact hK)))
            | ((first | (refine IL.askg (b := ?_) (d := ?_) ?_ ?_ (fun h => ?_) (fun h => ?_); rotate_left 2; (focus rfl); (focus rfl)) | (refine IL.askp (b := ?_) (d := ?_) ?_ ?_ (fun h => ?_) (fun h => ?_); rotate_left 2; (focus rfl); (focus rfl))); (fail_if_success (focus (simp only [reduceCtorEq] at h))); all_goals first | (simp only [Bool.and_eq_true, Bool.and_eq_false_iff, Bool.or_eq_true, Bool.or_eq_false_iff, Bool.not_eq_true', Bool.not_eq_false', beq_iff_eq, beq_eq_false_iff_ne, ne_eq, bne_iff_ne, bne_eq_false_iff_eq, decide_eq_true_eq, decide_eq_false_iff_not, Decidable.not_not] at h; first | done | (exfalso; omega; done) | skip) | skip)
            | (refine WK.cond (b := ?_) ?_ (fun h => ?_) (fun h => ?_); rotate_left 1; (focus rfl); all_goals first | (simp only [reduceCtorEq] at h; done) | (simp only [Bool.and_eq_true, Bool.and_eq_false_iff, Bool.or_eq_true, Bool.or_eq_false_iff, Bool.not_eq_true', Bool.not_eq_false', beq_iff_eq, beq_eq_false_iff_ne, ne_eq, bne_iff_ne, bne_eq_false_iff_eq, decide_eq_true_eq, decide_eq_false_iff_not, Decidable.not_not] at h; first | done | (exfalso; omega; done) | skip) | skip))
          refine ⟨(5, (a, b, c, d, n'), q1, e1), by simp, ⟨by simp, hA.2, ha, hb, hc, hd, hA.1, fun h => r5_err4 w1 w2 w3 w4 hra h, fun h => by
            simp only at h
            subst h
            simp [r5_of w1 w2 w3 w4 hra]⟩, ?_⟩
          (refine Weak.renS [0, 1, 2, 3] hfx rfl ?_ ?_ rfl <;> (simp only [go_sem, reduceIte, exists_eq_left', exists_eq_left, Blk.mk.injEq, txL] <;> (try and_intros) <;> first | rfl | omega))
      · have hG0 : e = 0 → txF a b c d (opsGo l (n - 0) [] r 0) = G := fun h => absurd h he
        repeat' (first
          | (refine WK.empRow (σ' := ?_) ttok 5 4 67 rfl rfl rfl rfl ?_ ?_; rotate_left 1; (focus (simp only [go_sem, nilRow, List.set_cons_zero, List.set_cons_succ, List.cons_append, List.nil_append, reduceIte]; rfl)))
          | refine WK.seq ?_
          | refine WK.reg ?_
          | refine IL.nil ?_
          | refine WK.skip ?_
          | refine WK.block ?_
          | refine WK.exit_here ?_
          | refine WK.exit_out1 (by decide) ?_
          | refine WK.exit_out2 (by decide) (by decide) ?_
          | (with_reducible refine IL.wr ?_ ?_; (focus (first | exact wrap_i64 (by omega) (by omega) | exact wrap_u64 (by omega) (by omega) | exact wrap_u32 (by omega) (by omega) | exact wrap_u16 (by omega) (by omega) | exact wrap_u8 (by omega) (by omega))))
          | (refine IL.stepg (σ' := ?_) ttok (by first | exact .inl rfl | (refine Gok.mk2 (b := ?_) rfl ?_ ?_; rotate_left 1; (focus rfl); (focus (with_reducible rfl)))) (fun K hK => ?_) ?_; rotate_left 1; (focus (simp only [go_sem, reduceIte]; first | exact hK | (and_intros <;> first | exact hK | omega | assumption | rfl | decide))))
          | (refine IL.no (σ' := ?_) (by first | (refine Gno.mkT (b := ?_) rfl ?_ ?_; rotate_left 1; (focus rfl); (focus (with_reducible rfl))) | (refine Gno.mkF (b := ?_) rfl ?_ ?_; rotate_left 1; (focus rfl); (focus (with_reducible rfl))) | exact Gno.mkU rfl rfl) (fun K hK => ?_) ?_; rotate_left 1; (focus (simp only [go_sem, reduceIte]; exact hK)))
          | (refine IL.stepArr (σ' := ?_) ttok (by first | exact .inl rfl | (refine Gok.mk2 (b := ?_) rfl ?_ ?_; rotate_left 1; (focus rfl); (focus (with_reducible rfl)))) (fun K hK => ?_) ?_; rotate_left 1; (focus (simp only [go_sem, reduceIte]; first | exact hK | (and_intros <;> first | exact hK | omega | assumption | rfl | decide))))
          | (refine IL.callS (f := 22) (xs := ?_) (A := ?_) (A' := ?_) (rr := ?_) (σ' := ?_) (bs := ?_) (ks := ?_) (sets := ?_) (pushes := ?_) ttok ent22 [.bor, .bor, .bor] true ?_ ?_ ?_ ?_ ?_ ?_ ?_ ?_ ?_ (fun K hK => ?_) ?_; rotate_left 9; (focus (first | exact .inl rfl | (refine Gok.mk2 (b := ?_) rfl ?_ ?_; rotate_left 1; (focus rfl); (focus (with_reducible rfl))))); (focus rfl); (focus (first | rfl | (simp only [go_sem, reduceIte] <;> rfl))); (focus (refine readNum_call _ _ _ _ ?_ ?_ ?_ ?_ <;> first | omega | assumption | decide | simp)); (focus rfl); (focus rfl); (focus (first | rfl | simp only [go_sem])); (focus (first | rfl | (simp only [go_sem, reduceIte] <;> rfl))); (focus simp); (focus (simp only [go_sem, reduceIte]; exact hK)))
          | (refine IL.callS (f := 23) (xs := ?_) (A := ?_) (A' := ?_) (rr := ?_) (σ' := ?_) (bs := ?_) (ks := ?_) (sets := ?_) (pushes := ?_) ttok ent23 [.bor, .bor] true ?_ ?_ ?_ ?_ ?_ ?_ ?_ ?_ ?_ (fun K hK => ?_) ?_; rotate_left 9; (focus (first | exact .inl rfl | (refine Gok.mk2 (b := ?_) rfl ?_ ?_; rotate_left 1; (focus rfl); (focus (with_reducible rfl))))); (focus rfl); (focus (first | rfl | (simp only [go_sem, reduceIte] <;> rfl))); (focus (refine opRead_call _ _ _ ?_ ?_ ?_ <;> first | omega | assumption | decide | simp)); (focus rfl); (focus rfl); (focus (first | rfl | simp only [go_sem])); (focus (first | rfl | (simp only [go_sem, reduceIte] <;> rfl))); (focus simp); (focus (simp only [go_sem, reduceIte]; exact hK)))
          | ((first | (refine IL.askg (b := ?_) (d := ?_) ?_ ?_ (fun h => ?_) (fun h => ?_); rotate_left 2; (focus rfl); (focus rfl)) | (refine IL.askp (b := ?_) (d := ?_) ?_ ?_ (fun h => ?_) (fun h => ?_); rotate_left 2; (focus rfl); (focus rfl))); (fail_if_success (focus (simp only [reduceCtorEq] at h))); all_goals first | (simp only [Bool.and_eq_true, Bool.and_eq_false_iff, Bool.or_eq_true, Bool.or_eq_false_iff, Bool.not_eq_true', Bool.not_eq_false', beq_iff_eq, beq_eq_false_iff_ne, ne_eq, bne_iff_ne, bne_eq_false_iff_eq, decide_eq_true_eq, decide_eq_false_iff_not, Decidable.not_not] at h; first | done | (exfalso; omega; done) | skip) | skip)
          | (refine WK.cond (b := ?_) ?_ (fun h => ?_) (fun h => ?_); rotate_left 1; (focus rfl); all_goals first | (simp only [reduceCtorEq] at h; done) | (simp only [Bool.and_eq_true, Bool.and_eq_false_iff, Bool.or_eq_true, Bool.or_eq_false_iff, Bool.not_eq_true', Bool.not_eq_false', beq_iff_eq, beq_eq_false_iff_ne, ne_eq, bne_iff_ne, bne_eq_false_iff_eq, decide_eq_true_eq, decide_eq_false_iff_not, Decidable.not_not] at h; first | done | (exfalso; omega; done) | skip) | skip))
        refine WK.whileS (α := Nat × List OpV × Nat × Int) (fun x => if x.2.2.2 = 0 then n + 1 - x.1 else 0) (fun x => x.1 ≤ n ∧ x.2.1.length = x.1 ∧ x.2.2.1 ≤ l.length ∧ (x.2.2.2 = 0 → txF a b c d (opsGo l (n - x.1) x.2.1 x.2.2.1 0) = G) ∧ (¬ x.2.2.2 = 0 → G = (⟨0, 0, 0, 0, []⟩, x.2.2)))
          (fun x => ⟨78, [(0, .tr l.length (bcells l)), (1, .v (.int .i64 (x.2.2.1 : Int))), (4, .ptr 1 0 0), (8, .ptr 2 0 0), (9, .v (.int .i64 x.2.2.2)), (11, .ptr 3 0 0), (12, .v (.int .u64 (x.1 : Int)))],
            [some ⟨true, 67, 0, false, [], 0, false⟩, some ⟨false, 0, 1, false, txL 0 0 0 0 (.sl 0 0 0 0), 0, false⟩, some ⟨false, 0, 1, false, [.v (.int .u64 (a : Int)), .v (.int .u64 (b : Int)), .v (.int .u64 (c : Int)), .v (.int .u64 (d : Int)), .v (.int .u64 (n : Int))], 0, false⟩, some ⟨false, 0, 1, false, txL a b c d (.sl 4 0 0 x.2.1.length), 0, false⟩, some ⟨true, 67, x.2.1.length, false, encs opC x.2.1, 0, false⟩]⟩) (0, [], r, e) ⟨⟨Nat.zero_le _, rfl, hr, hG0, hG1⟩, ?_⟩ ?_
        · (refine Weak.renS [0, 1, 3, 5, 6] hfx rfl ?_ ?_ rfl <;> (simp only [go_sem, reduceIte, exists_eq_left', exists_eq_left, Blk.mk.injEq, txL, List.length_nil, encs_nil] <;> (try and_intros) <;> first | rfl | omega))
        · rintro ⟨k, out, r2, e2⟩ ⟨hk, ho, hr2, hg0, hg1⟩
          simp only at hk ho hr2 hg0 hg1 ⊢
          by_cases he2 : e2 = 0
          · subst he2
            have hg := hg0 rfl
            rcases Nat.eq_or_lt_of_le hk with rfl | hk
            · rw [Nat.sub_self, opsGo] at hg
              subst hg
              unfold txF
              rw [if_pos rfl]
              repeat' (first
                | (refine WK.empRow (σ' := ?_) ttok 1 4 67 rfl rfl rfl rfl ?_ ?_; rotate_left 1; (focus (simp only [go_sem, nilRow, List.set_cons_zero, List.set_cons_succ, List.cons_append, List.nil_append, reduceIte]; rfl)))
                | refine WK.seq ?_
                | refine WK.reg ?_
                | refine IL.nil ?_
                | refine WK.skip ?_
                | refine WK.block ?_
                | refine WK.exit_here ?_
                | refine WK.exit_out1 (by decide) ?_
                | refine WK.exit_out2 (by decide) (by decide) ?_
                | (with_reducible refine IL.wr ?_ ?_; (focus (first | exact wrap_i64 (by omega) (by omega) | exact wrap_u64 (by omega) (by omega) | exact wrap_u32 (by omega) (by omega) | exact wrap_u16 (by omega) (by omega) | exact wrap_u8 (by omega) (by omega))))
                | (refine IL.stepg (σ' := ?_) ttok (by first | exact .inl rfl | (refine Gok.mk2 (b := ?_) rfl ?_ ?_; rotate_left 1; (focus rfl); (focus (with_reducible rfl)))) (fun K hK => ?_) ?_; rotate_left 1; (focus (simp only [go_sem, reduceIte]; first | exact hK | (and_intros <;> first | exact hK | omega | assumption | rfl | decide))))
                | (refine IL.no (σ' := ?_) (by first | (refine Gno.mkT (b := ?_) rfl ?_ ?_; rotate_left 1; (focus rfl); (focus (with_reducible rfl))) | (refine Gno.mkF (b := ?_) rfl ?_ ?_; rotate_left 1; (focus rfl); (focus (with_reducible rfl))) | exact Gno.mkU rfl rfl) (fun K hK => ?_) ?_; rotate_left 1; (focus (simp only [go_sem, reduceIte]; exact hK)))
                | (refine IL.stepArr (σ' := ?_) ttok (by first | exact .inl rfl | (refine Gok.mk2 (b := ?_) rfl ?_ ?_; rotate_left 1; (focus rfl); (focus (with_reducible rfl)))) (fun K hK => ?_) ?_; rotate_left 1; (focus (simp only [go_sem, reduceIte]; first | exact hK | (and_intros <;> first | exact hK | omega | assumption | rfl | decide))))
                | (refine IL.callS (f := 22) (xs := ?_) (A := ?_) (A' := ?_) (rr := ?_) (σ' := ?_) (bs := ?_) (ks := ?_) (sets := ?_) (pushes := ?_) ttok ent22 [.bor, .bor, .bor] true ?_ ?_ ?_ ?_ ?_ ?_ ?_ ?_ ?_ (fun K hK => ?_) ?_; rotate_left 9; (focus (first | exact .inl rfl | (refine Gok.mk2 (b := ?_) rfl ?_ ?_; rotate_left 1; (focus rfl); (focus (with_reducible rfl))))); (focus rfl); (focus (first | rfl | (simp only [go_sem, reduceIte] <;> rfl))); (focus (refine readNum_call _ _ _ _ ?_ ?_ ?_ ?_ <;> first | omega | assumption | decide | simp)); (focus rfl); (focus rfl); (focus (first | rfl | simp only [go_sem])); (focus (first | rfl | (simp only [go_sem, reduceIte] <;> rfl))); (focus simp); (focus (simp only [go_sem, reduceIte]; exact hK)))
                | (refine IL.callS (f := 23) (xs := ?_) (A := ?_) (A' := ?_) (rr := ?_) (σ' := ?_) (bs := ?_) (ks := ?_) (sets := ?_) (pushes := ?_) ttok ent23 [.bor, .bor] true ?_ ?_ ?_ ?_ ?_ ?_ ?_ ?_ ?_ (fun K hK => ?_) ?_; rotate_left 9; (focus (first | exact .inl rfl | (refine Gok.mk2 (b := ?_) rfl ?_ ?_; rotate_left 1; (focus rfl); (focus (with_reducible rfl))))); (focus rfl); (focus (first | rfl | (simp only [go_sem, reduceIte] <;> rfl))); (focus (refine opRead_call _ _ _ ?_ ?_ ?_ <;> first | omega | assumption | decide | simp)); (focus rfl); (focus rfl); (focus (first | rfl | simp only [go_sem])); (focus (first | rfl | (simp only [go_sem, reduceIte] <;> rfl))); (focus simp); (focus (simp only [go_sem, reduceIte]; exact hK)))
                | ((first | (refine IL.askg (b := ?_) (d := ?_) ?_ ?_ (fun h => ?_) (fun h => ?_); rotate_left 2; (focus rfl); (focus rfl)) | (refine IL.askp (b := ?_) (d := ?_) ?_ ?_ (fun h => ?_) (fun h => ?_); rotate_left 2; (focus rfl); (focus rfl))); (fail_if_success (focus (simp only [reduceCtorEq] at h))); all_goals first | (simp only [Bool.and_eq_true, Bool.and_eq_false_iff, Bool.or_eq_true, Bool.or_eq_false_iff, Bool.not_eq_true', Bool.not_eq_false', beq_iff_eq, beq_eq_false_iff_ne, ne_eq, bne_iff_ne, bne_eq_false_iff_eq, decide_eq_true_eq, decide_eq_false_iff_not, Decidable.not_not] at h; first | done | (exfalso; omega; done) | skip) | skip)
                | (refine WK.cond (b := ?_) ?_ (fun h => ?_) (fun h => ?_); rotate_left 1; (focus rfl); all_goals first | (simp only [reduceCtorEq] at h; done) | (simp only [Bool.and_eq_true, Bool.and_eq_false_iff, Bool.or_eq_true, Bool.or_eq_false_iff, Bool.not_eq_true', Bool.not_eq_false', beq_iff_eq, beq_eq_false_iff_ne, ne_eq, bne_iff_ne, bne_eq_false_iff_eq, decide_eq_true_eq, decide_eq_false_iff_not, Decidable.not_not] at h; first | done | (exfalso; omega; done) | skip) | skip))
              all_goals try ((first | refine WK.ret ⟨.inr rfl, Fin.of (q' := ?_) (A2 := ?_) (k1 := ?_) (k2 := ?_) ?_ ?_ ?_ ?_ ?_⟩ | refine ⟨.inl rfl, Fin.of (q' := ?_) (A2 := ?_) (k1 := ?_) (k2 := ?_) ?_ ?_ ?_ ?_ ?_⟩ | refine ⟨.inl trivial, Fin.of (q' := ?_) (A2 := ?_) (k1 := ?_) (k2 := ?_) ?_ ?_ ?_ ?_ ?_⟩); rotate_left 4; (focus (first | rfl | (simp only [go_sem, show Tryd.f8.results.toList = [.cell 4 35, .tmp 5, .tmp 6] from rfl, reduceIte] <;> rfl))); (focus (first | rfl | (simp only [go_sem, reduceIte] <;> rfl))); (focus rfl); rotate_left 1; (focus (first | rfl | skip)); all_goals try with_reducible rfl)
              all_goals rfl
            · rw [show n - k = (n - (k + 1)) + 1 by omega, opsGo] at hg
              have hL := rOp_leN l r2 0 hr2
              have hc := opRead_frz l r2 l.length rfl hr2 hl
              rcases hro : rOp l r2 0 with ⟨o, q', e'⟩
              rw [hro] at hg hL hc
              simp only at hg hL hc
              obtain ⟨ok, or, on, om, ot, os, oq⟩ := o
              rw [show opC ⟨ok, or, on, om, ot, os, oq⟩ = [.v (.int .i64 ok), .v (.int .u16 or), .v (.int .u32 on), .v (.int .u32 om), .v (.string ⟨ot.toArray⟩), .tr os.length (encs spC os), .v (.int .u32 oq)] from rfl] at hc
              have hcs : encs opC out ++ [.v (.int .i64 ok), .v (.int .u16 or), .v (.int .u32 on), .v (.int .u32 om), .v (.string ⟨ot.toArray⟩), .tr os.length (encs spC os), .v (.int .u32 oq)] = encs opC (out ++ [⟨ok, or, on, om, ot, os, oq⟩]) := encs_snoc (f := opC) out ⟨ok, or, on, om, ot, os, oq⟩
              have hln : (out ++ [(⟨ok, or, on, om, ot, os, oq⟩ : OpV)]).length = out.length + 1 := by simp
              repeat' (first
                | (refine WK.empRow (σ' := ?_) ttok 1 4 67 rfl rfl rfl rfl ?_ ?_; rotate_left 1; (focus (simp only [go_sem, nilRow, List.set_cons_zero, List.set_cons_succ, List.cons_append, List.nil_append, reduceIte]; rfl)))
                | refine WK.seq ?_
                | refine WK.reg ?_
                | refine IL.nil ?_
                | refine WK.skip ?_
                | refine WK.block ?_
                | refine WK.exit_here ?_
                | refine WK.exit_out1 (by decide) ?_
                | refine WK.exit_out2 (by decide) (by decide) ?_
                | (with_reducible refine IL.wr ?_ ?_; (focus (first | exact wrap_i64 (by omega) (by omega) | exact wrap_u64 (by omega) (by omega) | exact wrap_u32 (by omega) (by omega) | exact wrap_u16 (by omega) (by omega) | exact wrap_u8 (by omega) (by omega))))
                | (refine IL.stepg (σ' := ?_) ttok (by first | exact .inl rfl | (refine Gok.mk2 (b := ?_) rfl ?_ ?_; rotate_left 1; (focus rfl); (focus (with_reducible rfl)))) (fun K hK => ?_) ?_; rotate_left 1; (focus (simp only [go_sem, reduceIte]; first | exact hK | (and_intros <;> first | exact hK | omega | assumption | rfl | decide))))
                | (refine IL.no (σ' := ?_) (by first | (refine Gno.mkT (b := ?_) rfl ?_ ?_; rotate_left 1; (focus rfl); (focus (with_reducible rfl))) | (refine Gno.mkF (b := ?_) rfl ?_ ?_; rotate_left 1; (focus rfl); (focus (with_reducible rfl))) | exact Gno.mkU rfl rfl) (fun K hK => ?_) ?_; rotate_left 1; (focus (simp only [go_sem, reduceIte]; exact hK)))
                | (refine IL.stepArr (σ' := ?_) ttok (by first | exact .inl rfl | (refine Gok.mk2 (b := ?_) rfl ?_ ?_; rotate_left 1; (focus rfl); (focus (with_reducible rfl)))) (fun K hK => ?_) ?_; rotate_left 1; (focus (simp only [go_sem, reduceIte]; first | exact hK | (and_intros <;> first | exact hK | omega | assumption | rfl | decide))))
                | (refine IL.callS (f := 22) (xs := ?_) (A := ?_) (A' := ?_) (rr := ?_) (σ' := ?_) (bs := ?_) (ks := ?_) (sets := ?_) (pushes := ?_) ttok ent22 [.bor, .bor, .bor] true ?_ ?_ ?_ ?_ ?_ ?_ ?_ ?_ ?_ (fun K hK => ?_) ?_; rotate_left 9; (focus (first | exact .inl rfl | (refine Gok.mk2 (b := ?_) rfl ?_ ?_; rotate_left 1; (focus rfl); (focus (with_reducible rfl))))); (focus rfl); (focus (first | rfl | (simp only [go_sem, reduceIte] <;> rfl))); (focus (refine readNum_call _ _ _ _ ?_ ?_ ?_ ?_ <;> first | omega | assumption | decide | simp)); (focus rfl); (focus rfl); (focus (first | rfl | simp only [go_sem])); (focus (first | rfl | (simp only [go_sem, reduceIte] <;> rfl))); (focus simp); (focus (simp only [go_sem, reduceIte]; exact hK)))
                | (refine IL.callS (f := 23) (xs := ?_) (A := ?_) (A' := ?_) (rr := ?_) (σ' := ?_) (bs := ?_) (ks := ?_) (sets := ?_) (pushes := ?_) ttok ent23 [.bor, .bor] false ?_ ?_ ?_ ?_ ?_ ?_ ?_ ?_ ?_ (fun K hK => ?_) ?_; rotate_left 9; (focus (first | exact .inl rfl | (refine Gok.mk2 (b := ?_) rfl ?_ ?_; rotate_left 1; (focus rfl); (focus (with_reducible rfl))))); (focus rfl); (focus (first | rfl | (simp only [go_sem, reduceIte] <;> rfl))); (focus (exact hc)); (focus rfl); (focus rfl); (focus (first | rfl | simp only [go_sem])); (focus (first | rfl | (simp only [go_sem, reduceIte] <;> rfl))); (focus simp); (focus (simp only [go_sem, reduceIte]; exact hK)))
                | ((first | (refine IL.askg (b := ?_) (d := ?_) ?_ ?_ (fun h => ?_) (fun h => ?_); rotate_left 2; (focus rfl); (focus rfl)) | (refine IL.askp (b := ?_) (d := ?_) ?_ ?_ (fun h => ?_) (fun h => ?_); rotate_left 2; (focus rfl); (focus rfl))); (fail_if_success (focus (simp only [reduceCtorEq] at h))); all_goals first | (simp only [Bool.and_eq_true, Bool.and_eq_false_iff, Bool.or_eq_true, Bool.or_eq_false_iff, Bool.not_eq_true', Bool.not_eq_false', beq_iff_eq, beq_eq_false_iff_ne, ne_eq, bne_iff_ne, bne_eq_false_iff_eq, decide_eq_true_eq, decide_eq_false_iff_not, Decidable.not_not] at h; first | done | (exfalso; omega; done) | skip) | skip)
                | (refine WK.cond (b := ?_) ?_ (fun h => ?_) (fun h => ?_); rotate_left 1; (focus rfl); all_goals first | (simp only [reduceCtorEq] at h; done) | (simp only [Bool.and_eq_true, Bool.and_eq_false_iff, Bool.or_eq_true, Bool.or_eq_false_iff, Bool.not_eq_true', Bool.not_eq_false', beq_iff_eq, beq_eq_false_iff_ne, ne_eq, bne_iff_ne, bne_eq_false_iff_eq, decide_eq_true_eq, decide_eq_false_iff_not, Decidable.not_not] at h; first | done | (exfalso; omega; done) | skip) | skip))
              refine ⟨(k + 1, out ++ [⟨ok, or, on, om, ot, os, oq⟩], q', e'), by simp only; split <;> (try simp) <;> omega, ⟨by simp only; omega, by simp only [hln, ho], hL.1, fun h => by simp only at h; subst h; rw [if_pos rfl] at hg; exact hg, fun h => by simp only at h; rw [if_neg h] at hg; rw [← hg]; unfold txF; rw [if_neg h]⟩, ?_⟩
              (refine Weak.renS [0, 1, 2, 3, 4] hfx rfl ?_ ?_ rfl <;> (simp only [go_sem, reduceIte, exists_eq_left', exists_eq_left, Blk.mk.injEq, hcs, hln, txL] <;> (try and_intros) <;> first | rfl | omega))
          · have hg := hg1 he2
            subst hg
            repeat' (first
              | (refine WK.empRow (σ' := ?_) ttok 1 4 67 rfl rfl rfl rfl ?_ ?_; rotate_left 1; (focus (simp only [go_sem, nilRow, List.set_cons_zero, List.set_cons_succ, List.cons_append, List.nil_append, reduceIte]; rfl)))
              | refine WK.seq ?_
              | refine WK.reg ?_
              | refine IL.nil ?_
              | refine WK.skip ?_
              | refine WK.block ?_
              | refine WK.exit_here ?_
              | refine WK.exit_out1 (by decide) ?_
              | refine WK.exit_out2 (by decide) (by decide) ?_
              | (with_reducible refine IL.wr ?_ ?_; (focus (first | exact wrap_i64 (by omega) (by omega) | exact wrap_u64 (by omega) (by omega) | exact wrap_u32 (by omega) (by omega) | exact wrap_u16 (by omega) (by omega) | exact wrap_u8 (by omega) (by omega))))
              | (refine IL.stepg (σ' := ?_) ttok (by first | exact .inl rfl | (refine Gok.mk2 (b := ?_) rfl ?_ ?_; rotate_left 1; (focus rfl); (focus (with_reducible rfl)))) (fun K hK => ?_) ?_; rotate_left 1; (focus (simp only [go_sem, reduceIte]; first | exact hK | (and_intros <;> first | exact hK | omega | assumption | rfl | decide))))
              | (refine IL.no (σ' := ?_) (by first | (refine Gno.mkT (b := ?_) rfl ?_ ?_; rotate_left 1; (focus rfl); (focus (with_reducible rfl))) | (refine Gno.mkF (b := ?_) rfl ?_ ?_; rotate_left 1; (focus rfl); (focus (with_reducible rfl))) | exact Gno.mkU rfl rfl) (fun K hK => ?_) ?_; rotate_left 1; (focus (simp only [go_sem, reduceIte]; exact hK)))
              | (refine IL.stepArr (σ' := ?_) ttok (by first | exact .inl rfl | (refine Gok.mk2 (b := ?_) rfl ?_ ?_; rotate_left 1; (focus rfl); (focus (with_reducible rfl)))) (fun K hK => ?_) ?_; rotate_left 1; (focus (simp only [go_sem, reduceIte]; first | exact hK | (and_intros <;> first | exact hK | omega | assumption | rfl | decide))))
              | (refine IL.callS (f := 22) (xs := ?_) (A := ?_) (A' := ?_) (rr := ?_) (σ' := ?_) (bs := ?_) (ks := ?_) (sets := ?_) (pushes := ?_) ttok ent22 [.bor, .bor, .bor] true ?_ ?_ ?_ ?_ ?_ ?_ ?_ ?_ ?_ (fun K hK => ?_) ?_; rotate_left 9; (focus (first | exact .inl rfl | (refine Gok.mk2 (b := ?_) rfl ?_ ?_; rotate_left 1; (focus rfl); (focus (with_reducible rfl))))); (focus rfl); (focus (first | rfl | (simp only [go_sem, reduceIte] <;> rfl))); (focus (refine readNum_call _ _ _ _ ?_ ?_ ?_ ?_ <;> first | omega | assumption | decide | simp)); (focus rfl); (focus rfl); (focus (first | rfl | simp only [go_sem])); (focus (first | rfl | (simp only [go_sem, reduceIte] <;> rfl))); (focus simp); (focus (simp only [go_sem, reduceIte]; exact hK)))
              | (refine IL.callS (f := 23) (xs := ?_) (A := ?_) (A' := ?_) (rr := ?_) (σ' := ?_) (bs := ?_) (ks := ?_) (sets := ?_) (pushes := ?_) ttok ent23 [.bor, .bor] false ?_ ?_ ?_ ?_ ?_ ?_ ?_ ?_ ?_ (fun K hK => ?_) ?_; rotate_left 9; (focus (first | exact .inl rfl | (refine Gok.mk2 (b := ?_) rfl ?_ ?_; rotate_left 1; (focus rfl); (focus (with_reducible rfl))))); (focus rfl); (focus (first | rfl | (simp only [go_sem, reduceIte] <;> rfl))); (focus (exact hc)); (focus rfl); (focus rfl); (focus (first | rfl | simp only [go_sem])); (focus (first | rfl | (simp only [go_sem, reduceIte] <;> rfl))); (focus simp); (focus (simp only [go_sem, reduceIte]; exact hK)))
              | ((first | (refine IL.askg (b := ?_) (d := ?_) ?_ ?_ (fun h => ?_) (fun h => ?_); rotate_left 2; (focus rfl); (focus rfl)) | (refine IL.askp (b := ?_) (d := ?_) ?_ ?_ (fun h => ?_) (fun h => ?_); rotate_left 2; (focus rfl); (focus rfl))); (fail_if_success (focus (simp only [reduceCtorEq] at h))); all_goals first | (simp only [Bool.and_eq_true, Bool.and_eq_false_iff, Bool.or_eq_true, Bool.or_eq_false_iff, Bool.not_eq_true', Bool.not_eq_false', beq_iff_eq, beq_eq_false_iff_ne, ne_eq, bne_iff_ne, bne_eq_false_iff_eq, decide_eq_true_eq, decide_eq_false_iff_not, Decidable.not_not] at h; first | done | (exfalso; omega; done) | skip) | skip)
              | (refine WK.cond (b := ?_) ?_ (fun h => ?_) (fun h => ?_); rotate_left 1; (focus rfl); all_goals first | (simp only [reduceCtorEq] at h; done) | (simp only [Bool.and_eq_true, Bool.and_eq_false_iff, Bool.or_eq_true, Bool.or_eq_false_iff, Bool.not_eq_true', Bool.not_eq_false', beq_iff_eq, beq_eq_false_iff_ne, ne_eq, bne_iff_ne, bne_eq_false_iff_eq, decide_eq_true_eq, decide_eq_false_iff_not, Decidable.not_not] at h; first | done | (exfalso; omega; done) | skip) | skip))
            all_goals try ((first | refine WK.ret ⟨.inr rfl, Fin.of (q' := ?_) (A2 := ?_) (k1 := ?_) (k2 := ?_) ?_ ?_ ?_ ?_ ?_⟩ | refine ⟨.inl rfl, Fin.of (q' := ?_) (A2 := ?_) (k1 := ?_) (k2 := ?_) ?_ ?_ ?_ ?_ ?_⟩ | refine ⟨.inl trivial, Fin.of (q' := ?_) (A2 := ?_) (k1 := ?_) (k2 := ?_) ?_ ?_ ?_ ?_ ?_⟩); rotate_left 4; (focus (first | rfl | (simp only [go_sem, show Tryd.f8.results.toList = [.cell 4 35, .tmp 5, .tmp 6] from rfl, reduceIte] <;> rfl))); (focus (first | rfl | (simp only [go_sem, reduceIte] <;> rfl))); (focus rfl); rotate_left 1; (focus (first | rfl | skip)); all_goals try with_reducible rfl)
            all_goals rfl
end Go.Proofs.YtolbmgkoifchfaaDoor
