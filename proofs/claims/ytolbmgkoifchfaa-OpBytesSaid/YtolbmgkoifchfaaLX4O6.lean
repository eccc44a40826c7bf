/- The document's Fit of spans; the names of spans. -/
import Derived.Test.YtolbmgkoifchfaaLX4O3
namespace Go.Proofs.Ytolbmgkoifchfaa
open Go Go.Lift
set_option maxHeartbeats 4000000
set_option linter.unusedSimpArgs false
set_option linter.unusedVariables false
attribute [local irreducible] WK IL IP IG IW DW

def meetI (a b : Sp) : Prop := a.1 = b.1 ∧ a.2.1 < b.2.1 + b.2.2 ∧ b.2.1 < a.2.1 + a.2.2
instance (a b : Sp) : Decidable (meetI a b) := by unfold meetI; infer_instance
theorem meet_call (r n c r' n' c' : Int) (h1 : rightI (r, n, c)) (h2 : rightI (r', n', c')) : SCall Try.prog 40 [.agg [.v (.int .u16 r), .v (.int .u32 n), .v (.int .i64 c)], .agg [.v (.int .u16 r'), .v (.int .u32 n'), .v (.int .i64 c')]] (.v (.bool (decide (meetI (r, n, c) (r', n', c'))))) [.agg [.v (.int .u16 r), .v (.int .u32 n), .v (.int .i64 c)], .agg [.v (.int .u16 r'), .v (.int .u32 n'), .v (.int .i64 c')]] := by
  unfold rightI at h1 h2
  simp only at h1 h2
  refine SCall.of_body' (TT := TT) (fun _ => false) [false, false] ttok Try.func40 rfl (Nat.le_of_ble_eq_true rfl) rfl fun fx hfx => WK.top ?_
  simp only [impl, imp, argT, List.append_nil, List.map_nil, List.nil_append, show Try.f40.ntmps = 40 from rfl, Nat.zero_add, Nat.reduceAdd]
  repeat' (first
    | refine WK.seq ?_
    | refine WK.reg ?_
    | refine IL.nil ?_
    | refine WK.skip ?_
    | refine WK.block ?_
    | refine WK.exit_here ?_
    | refine WK.exit_out1 (by decide) ?_
    | refine WK.exit_out2 (by decide) (by decide) ?_
    | (with_reducible refine IL.wr ?_ ?_; (focus (first | exact wrap_i64 (by omega) (by omega) | exact wrap_u64 (by omega) (by omega) | exact wrap_u32 (by omega) (by omega) | exact wrap_u16 (by omega) (by omega) | exact wrap_u8 (by omega) (by omega))))
    | (refine IL.stepg (σ' := ?_) ttok (by first | exact .inl rfl | (refine Gok.mk2 (b := ?_) rfl ?_ ?_; rotate_left 1; (focus rfl); (focus (with_reducible rfl)))) (fun K hK => ?_) ?_; rotate_left 1; (focus (simp only [go_sem, reduceIte]; first | exact hK | (and_intros <;> first | exact hK | omega | assumption | rfl | decide))))
    | (refine IL.no (σ' := ?_) (by first | (refine Gno.mkT (b := ?_) rfl ?_ ?_; rotate_left 1; (focus rfl); (focus (with_reducible rfl))) | (refine Gno.mkF (b := ?_) rfl ?_ ?_; rotate_left 1; (focus rfl); (focus (with_reducible rfl))) | exact Gno.mkU rfl rfl) (fun K hK => ?_) ?_; rotate_left 1; (focus (simp only [go_sem, reduceIte]; exact hK)))
    | ((first | (refine IL.askg (b := ?_) (d := ?_) ?_ ?_ (fun h => ?_) (fun h => ?_); rotate_left 2; (focus rfl); (focus rfl)) | (refine IL.askp (b := ?_) (d := ?_) ?_ ?_ (fun h => ?_) (fun h => ?_); rotate_left 2; (focus rfl); (focus rfl))); (fail_if_success (focus (simp only [reduceCtorEq] at h))); all_goals first | (simp only [Bool.and_eq_true, Bool.and_eq_false_iff, Bool.or_eq_true, Bool.or_eq_false_iff, Bool.not_eq_true', Bool.not_eq_false', beq_iff_eq, beq_eq_false_iff_ne, ne_eq, bne_iff_ne, bne_eq_false_iff_eq, decide_eq_true_eq, decide_eq_false_iff_not, Decidable.not_not] at h; first | done | (exfalso; omega; done) | skip) | skip)
    | (refine WK.cond (b := ?_) ?_ (fun h => ?_) (fun h => ?_); rotate_left 1; (focus rfl); all_goals first | (simp only [reduceCtorEq] at h; done) | (simp only [Bool.and_eq_true, Bool.and_eq_false_iff, Bool.or_eq_true, Bool.or_eq_false_iff, Bool.not_eq_true', Bool.not_eq_false', beq_iff_eq, beq_eq_false_iff_ne, ne_eq, bne_iff_ne, bne_eq_false_iff_eq, decide_eq_true_eq, decide_eq_false_iff_not, Decidable.not_not] at h; first | done | (exfalso; omega; done) | skip) | skip))
  all_goals try ((first | refine WK.ret ⟨.inr rfl, Fin.of (q' := ?_) (A2 := ?_) (k1 := ?_) (k2 := ?_) ?_ ?_ ?_ ?_ ?_⟩ | refine ⟨.inl rfl, Fin.of (q' := ?_) (A2 := ?_) (k1 := ?_) (k2 := ?_) ?_ ?_ ?_ ?_ ?_⟩ | refine ⟨.inl trivial, Fin.of (q' := ?_) (A2 := ?_) (k1 := ?_) (k2 := ?_) ?_ ?_ ?_ ?_ ?_⟩); rotate_left 4; (focus (first | rfl | (simp only [go_sem, show Try.f40.results.toList = [.tmp 4] from rfl, reduceIte] <;> rfl))); (focus (first | rfl | (simp only [go_sem, reduceIte] <;> rfl))); (focus rfl); rotate_left 1; (focus (first | rfl | skip)); all_goals try with_reducible rfl)
  all_goals grind [meetI]
def apartI (l : List Sp) : Prop := ∀ i (hi : i < l.length) k (hk : k < i), ¬ meetI l[i] (l[k]'(by omega))
open Classical in
theorem apart_call (l : List Sp) (nn : Nat) (hnn : nn = l.length) (hl : l.length ≤ 100000) (hr : ∀ s ∈ l, rightI s) : SCall Try.prog 38 [.tr nn (encs spC l)] (.v (.bool (decide (apartI l)))) [.tr nn (encs spC l)] := by
  subst hnn
  refine SCall.of_body' (TT := TT) (fun _ => false) [false] ttok Try.func38 rfl (Nat.le_of_ble_eq_true rfl) rfl fun fx hfx => WK.top ?_
  simp only [impl, imp, argT, List.append_nil, List.map_nil, List.nil_append, show Try.f38.ntmps = 25 from rfl, Nat.zero_add, Nat.reduceAdd]
  repeat' (first
    | refine WK.seq ?_
    | refine WK.reg ?_
    | refine IL.nil ?_
    | refine WK.skip ?_
    | refine WK.block ?_
    | refine WK.exit_here ?_
    | refine WK.exit_out1 (by decide) ?_
    | refine WK.exit_out2 (by decide) (by decide) ?_
    | refine WK.drawnS (id := 7) mixed [] [8] [0, 0, 0, 0, 0, 0, 0, 0, 0] [0, 0, 0, 0, 0, 0, 0, 0, 0] (by decide +kernel) ?_
    | refine DW.nil ?_
    | (with_reducible refine IL.wr ?_ ?_; (focus (first | exact wrap_i64 (by omega) (by omega) | exact wrap_u64 (by omega) (by omega) | exact wrap_u32 (by omega) (by omega) | exact wrap_u16 (by omega) (by omega) | exact wrap_u8 (by omega) (by omega))))
    | (with_reducible refine DW.wr ?_ ?_; (focus (first | exact wrap_i64 (by omega) (by omega) | exact wrap_u64 (by omega) (by omega) | exact wrap_u32 (by omega) (by omega) | exact wrap_u16 (by omega) (by omega) | exact wrap_u8 (by omega) (by omega))))
    | (refine IL.stepg (σ' := ?_) ttok (by first | exact .inl rfl | (refine Gok.mk2 (b := ?_) rfl ?_ ?_; rotate_left 1; (focus rfl); (focus (with_reducible rfl)))) (fun K hK => ?_) ?_; rotate_left 1; (focus (simp only [go_sem, reduceIte]; first | exact hK | (and_intros <;> first | exact hK | omega | assumption | rfl | decide))))
    | (refine IL.no (σ' := ?_) (by first | (refine Gno.mkT (b := ?_) rfl ?_ ?_; rotate_left 1; (focus rfl); (focus (with_reducible rfl))) | (refine Gno.mkF (b := ?_) rfl ?_ ?_; rotate_left 1; (focus rfl); (focus (with_reducible rfl))) | exact Gno.mkU rfl rfl) (fun K hK => ?_) ?_; rotate_left 1; (focus (simp only [go_sem, reduceIte]; exact hK)))
    | (refine DW.rd (L := ?_) (T' := ?_) ttok rfl rfl (by decide) ?_ ?_ (fun K hK => ?_) ?_ ?_; rotate_left 2; (focus rfl); (focus (first | exact .inl rfl | (refine Gok.mk2 (b := ?_) rfl ?_ ?_; rotate_left 1; (focus rfl); (focus (with_reducible rfl))))); (focus (simp only [go_sem, reduceIte]; first | exact hK | (and_intros <;> first | exact hK | omega | assumption | rfl | decide))); (focus (first | exact ⟨_, rfl⟩ | rfl)))
    | (refine DW.rdm (L := ?_) (T' := ?_) ttok rfl rfl ?_ ?_ (fun K hK => ?_) ?_ ?_; rotate_left 2; (focus rfl); (focus (first | exact .inl rfl | (refine Gok.mk2 (b := ?_) rfl ?_ ?_; rotate_left 1; (focus rfl); (focus (with_reducible rfl))))); (focus (simp only [go_sem, reduceIte]; first | exact hK | (and_intros <;> first | exact hK | omega | assumption | rfl | decide))); (focus (first | exact ⟨_, rfl⟩ | rfl)))
    | (refine DW.bl (L' := ?_) (T' := ?_) ttok rfl ?_ (fun K hK => ?_) ?_ ?_ ?_; rotate_left 2; (focus (first | exact .inl rfl | (refine Gok.mk2 (b := ?_) rfl ?_ ?_; rotate_left 1; (focus rfl); (focus (with_reducible rfl))))); (focus (simp only [go_sem, reduceIte]; first | exact hK | (and_intros <;> first | exact hK | omega | assumption | rfl | decide))); (focus (first | exact ⟨_, rfl⟩ | rfl)); (focus (first | exact .inl rfl | exact .inr (LEX.refl _ _) | exact .inr (LE.app _ _).lex | exact .inr (LEX.of (by simp only [go_sem, List.contains_cons, List.contains_nil, Nat.reduceBEq, Bool.or_false, Bool.false_or, Nat.reduceAdd, true_or, false_or, true_and]; first | done | trivial | (and_intros <;> first | exact ⟨_, rfl⟩ | trivial))))))
    | (refine DW.no (L := ?_) (T' := ?_) ?_ rfl ?_ (fun K hK => ?_) ?_ ?_; rotate_left 2; (focus rfl); (focus (first | (refine Gno.mkT (b := ?_) rfl ?_ ?_; rotate_left 1; (focus rfl); (focus (with_reducible rfl))) | (refine Gno.mkF (b := ?_) rfl ?_ ?_; rotate_left 1; (focus rfl); (focus (with_reducible rfl))) | exact Gno.mkU rfl rfl)); (focus (simp only [go_sem, reduceIte]; exact hK)); (focus (first | exact ⟨_, rfl⟩ | rfl)))
    | (refine DW.nob (T' := ?_) rfl ?_ (fun K hK => ?_) ?_ ?_; rotate_left 1; (focus (first | (refine Gno.mkT (b := ?_) rfl ?_ ?_; rotate_left 1; (focus rfl); (focus (with_reducible rfl))) | (refine Gno.mkF (b := ?_) rfl ?_ ?_; rotate_left 1; (focus rfl); (focus (with_reducible rfl))) | exact Gno.mkU rfl rfl)); (focus (simp only [go_sem, reduceIte]; exact hK)); (focus (first | exact ⟨_, rfl⟩ | rfl)))
    | (refine DW.callS (f := 40) (xs := ?_) (A := ?_) (A' := ?_) (rr := ?_) (L' := ?_) (T' := ?_) (bs := ?_) (ks := ?_) (sets := ?_) (pushes := ?_) ttok ent40 [.bor, .bor] true rfl ?_ ?_ ?_ ?_ ?_ ?_ ?_ ?_ ?_ (fun K hK => ?_) ?_ ?_ ?_; rotate_left 10; (focus (first | exact .inl rfl | (refine Gok.mk2 (b := ?_) rfl ?_ ?_; rotate_left 1; (focus rfl); (focus (with_reducible rfl))))); (focus rfl); (focus (first | rfl | (simp only [go_sem, reduceIte] <;> rfl))); (focus (refine meet_call _ _ _ _ _ _ ?_ ?_ <;> first | omega | assumption | decide | simp)); (focus rfl); (focus rfl); (focus (first | rfl | simp only [go_sem])); (focus (first | rfl | (simp only [go_sem, reduceIte] <;> rfl))); (focus simp); (focus (simp only [go_sem, reduceIte]; first | exact hK | (and_intros <;> first | exact hK | omega | assumption | rfl | decide))); (focus (first | exact ⟨_, rfl⟩ | rfl)); (focus (first | exact .inl rfl | exact .inr (LEX.refl _ _) | exact .inr (LE.app _ _).lex | exact .inr (LEX.of (by simp only [go_sem, List.contains_cons, List.contains_nil, Nat.reduceBEq, Bool.or_false, Bool.false_or, Nat.reduceAdd, true_or, false_or, true_and]; first | done | trivial | (and_intros <;> first | exact ⟨_, rfl⟩ | trivial))))))
    | ((first | (refine IL.askg (b := ?_) (d := ?_) ?_ ?_ (fun h => ?_) (fun h => ?_); rotate_left 2; (focus rfl); (focus rfl)) | (refine DW.askg (b := ?_) (d := ?_) ?_ ?_ (fun h => ?_) (fun h => ?_); rotate_left 2; (focus rfl); (focus rfl)) | (refine IL.askp (b := ?_) (d := ?_) ?_ ?_ (fun h => ?_) (fun h => ?_); rotate_left 2; (focus rfl); (focus rfl)) | (refine DW.askp (b := ?_) (d := ?_) ?_ ?_ (fun h => ?_) (fun h => ?_); rotate_left 2; (focus rfl); (focus rfl))); (fail_if_success (focus (simp only [reduceCtorEq] at h))); all_goals first | (simp only [Bool.and_eq_true, Bool.and_eq_false_iff, Bool.or_eq_true, Bool.or_eq_false_iff, Bool.not_eq_true', Bool.not_eq_false', beq_iff_eq, beq_eq_false_iff_ne, ne_eq, bne_iff_ne, bne_eq_false_iff_eq, decide_eq_true_eq, decide_eq_false_iff_not, Decidable.not_not] at h; first | done | (exfalso; omega; done) | skip) | skip)
    | (refine WK.cond (b := ?_) ?_ (fun h => ?_) (fun h => ?_); rotate_left 1; (focus rfl); all_goals first | (simp only [reduceCtorEq] at h; done) | (simp only [Bool.and_eq_true, Bool.and_eq_false_iff, Bool.or_eq_true, Bool.or_eq_false_iff, Bool.not_eq_true', Bool.not_eq_false', beq_iff_eq, beq_eq_false_iff_ne, ne_eq, bne_iff_ne, bne_eq_false_iff_eq, decide_eq_true_eq, decide_eq_false_iff_not, Decidable.not_not] at h; first | done | (exfalso; omega; done) | skip) | skip))
  refine WK.forS l.length (fun i => ∀ i' (hi : i' < l.length) k (hk : k < i'), i' < i → ¬ meetI l[i'] (l[k]'(by omega))) (fun i => ⟨25, [(0, .tr l.length (encs spC l)), (3, .v (.int .i64 i))], []⟩) ⟨by intros; omega, ?_⟩ (fun i hi ho => ?_) (fun ho => ?_)
  · (refine Weak.cut' rfl rfl ?_; (first | (simp only [go_sem, reduceIte] <;> (try and_intros) <;> first | rfl | omega | grind)))
  · repeat' (first
      | refine WK.seq ?_
      | refine WK.reg ?_
      | refine IL.nil ?_
      | refine WK.skip ?_
      | refine WK.block ?_
      | refine WK.exit_here ?_
      | refine WK.exit_out1 (by decide) ?_
      | refine WK.exit_out2 (by decide) (by decide) ?_
      | refine WK.drawnS (id := 7) mixed [] [8] [0, 0, 0, 0, 0, 0, 0, 0, 0] [0, 0, 0, 0, 0, 0, 0, 0, 0] (by decide +kernel) ?_
      | refine DW.nil ?_
      | (with_reducible refine IL.wr ?_ ?_; (focus (first | exact wrap_i64 (by omega) (by omega) | exact wrap_u64 (by omega) (by omega) | exact wrap_u32 (by omega) (by omega) | exact wrap_u16 (by omega) (by omega) | exact wrap_u8 (by omega) (by omega))))
      | (with_reducible refine DW.wr ?_ ?_; (focus (first | exact wrap_i64 (by omega) (by omega) | exact wrap_u64 (by omega) (by omega) | exact wrap_u32 (by omega) (by omega) | exact wrap_u16 (by omega) (by omega) | exact wrap_u8 (by omega) (by omega))))
      | (refine IL.stepg (σ' := ?_) ttok (by first | exact .inl rfl | (refine Gok.mk2 (b := ?_) rfl ?_ ?_; rotate_left 1; (focus rfl); (focus (with_reducible rfl)))) (fun K hK => ?_) ?_; rotate_left 1; (focus (simp only [go_sem, reduceIte]; first | exact hK | (and_intros <;> first | exact hK | omega | assumption | rfl | decide))))
      | (refine IL.no (σ' := ?_) (by first | (refine Gno.mkT (b := ?_) rfl ?_ ?_; rotate_left 1; (focus rfl); (focus (with_reducible rfl))) | (refine Gno.mkF (b := ?_) rfl ?_ ?_; rotate_left 1; (focus rfl); (focus (with_reducible rfl))) | exact Gno.mkU rfl rfl) (fun K hK => ?_) ?_; rotate_left 1; (focus (simp only [go_sem, reduceIte]; exact hK)))
      | (refine DW.rd (L := ?_) (T' := ?_) ttok rfl rfl (by decide) ?_ ?_ (fun K hK => ?_) ?_ ?_; rotate_left 2; (focus rfl); (focus (first | exact .inl rfl | (refine Gok.mk2 (b := ?_) rfl ?_ ?_; rotate_left 1; (focus rfl); (focus (with_reducible rfl))))); (focus (simp only [go_sem, reduceIte]; first | exact hK | (and_intros <;> first | exact hK | omega | assumption | rfl | decide))); (focus (first | exact ⟨_, rfl⟩ | rfl)))
      | (refine DW.rdm (L := ?_) (T' := ?_) ttok rfl rfl ?_ ?_ (fun K hK => ?_) ?_ ?_; rotate_left 2; (focus rfl); (focus (first | exact .inl rfl | (refine Gok.mk2 (b := ?_) rfl ?_ ?_; rotate_left 1; (focus rfl); (focus (with_reducible rfl))))); (focus (simp only [go_sem, reduceIte]; first | exact hK | (and_intros <;> first | exact hK | omega | assumption | rfl | decide))); (focus (first | exact ⟨_, rfl⟩ | rfl)))
      | (refine DW.bl (L' := ?_) (T' := ?_) ttok rfl ?_ (fun K hK => ?_) ?_ ?_ ?_; rotate_left 2; (focus (first | exact .inl rfl | (refine Gok.mk2 (b := ?_) rfl ?_ ?_; rotate_left 1; (focus rfl); (focus (with_reducible rfl))))); (focus (simp only [go_sem, reduceIte]; first | exact hK | (and_intros <;> first | exact hK | omega | assumption | rfl | decide))); (focus (first | exact ⟨_, rfl⟩ | rfl)); (focus (first | exact .inl rfl | exact .inr (LEX.refl _ _) | exact .inr (LE.app _ _).lex | exact .inr (LEX.of (by simp only [go_sem, List.contains_cons, List.contains_nil, Nat.reduceBEq, Bool.or_false, Bool.false_or, Nat.reduceAdd, true_or, false_or, true_and]; first | done | trivial | (and_intros <;> first | exact ⟨_, rfl⟩ | trivial))))))
      | (refine DW.no (L := ?_) (T' := ?_) ?_ rfl ?_ (fun K hK => ?_) ?_ ?_; rotate_left 2; (focus rfl); (focus (first | (refine Gno.mkT (b := ?_) rfl ?_ ?_; rotate_left 1; (focus rfl); (focus (with_reducible rfl))) | (refine Gno.mkF (b := ?_) rfl ?_ ?_; rotate_left 1; (focus rfl); (focus (with_reducible rfl))) | exact Gno.mkU rfl rfl)); (focus (simp only [go_sem, reduceIte]; exact hK)); (focus (first | exact ⟨_, rfl⟩ | rfl)))
      | (refine DW.nob (T' := ?_) rfl ?_ (fun K hK => ?_) ?_ ?_; rotate_left 1; (focus (first | (refine Gno.mkT (b := ?_) rfl ?_ ?_; rotate_left 1; (focus rfl); (focus (with_reducible rfl))) | (refine Gno.mkF (b := ?_) rfl ?_ ?_; rotate_left 1; (focus rfl); (focus (with_reducible rfl))) | exact Gno.mkU rfl rfl)); (focus (simp only [go_sem, reduceIte]; exact hK)); (focus (first | exact ⟨_, rfl⟩ | rfl)))
      | (refine DW.callS (f := 40) (xs := ?_) (A := ?_) (A' := ?_) (rr := ?_) (L' := ?_) (T' := ?_) (bs := ?_) (ks := ?_) (sets := ?_) (pushes := ?_) ttok ent40 [.bor, .bor] true rfl ?_ ?_ ?_ ?_ ?_ ?_ ?_ ?_ ?_ (fun K hK => ?_) ?_ ?_ ?_; rotate_left 10; (focus (first | exact .inl rfl | (refine Gok.mk2 (b := ?_) rfl ?_ ?_; rotate_left 1; (focus rfl); (focus (with_reducible rfl))))); (focus rfl); (focus (first | rfl | (simp only [go_sem, reduceIte] <;> rfl))); (focus (refine meet_call _ _ _ _ _ _ ?_ ?_ <;> first | omega | assumption | decide | simp)); (focus rfl); (focus rfl); (focus (first | rfl | simp only [go_sem])); (focus (first | rfl | (simp only [go_sem, reduceIte] <;> rfl))); (focus simp); (focus (simp only [go_sem, reduceIte]; first | exact hK | (and_intros <;> first | exact hK | omega | assumption | rfl | decide))); (focus (first | exact ⟨_, rfl⟩ | rfl)); (focus (first | exact .inl rfl | exact .inr (LEX.refl _ _) | exact .inr (LE.app _ _).lex | exact .inr (LEX.of (by simp only [go_sem, List.contains_cons, List.contains_nil, Nat.reduceBEq, Bool.or_false, Bool.false_or, Nat.reduceAdd, true_or, false_or, true_and]; first | done | trivial | (and_intros <;> first | exact ⟨_, rfl⟩ | trivial))))))
      | ((first | (refine IL.askg (b := ?_) (d := ?_) ?_ ?_ (fun h => ?_) (fun h => ?_); rotate_left 2; (focus rfl); (focus rfl)) | (refine DW.askg (b := ?_) (d := ?_) ?_ ?_ (fun h => ?_) (fun h => ?_); rotate_left 2; (focus rfl); (focus rfl)) | (refine IL.askp (b := ?_) (d := ?_) ?_ ?_ (fun h => ?_) (fun h => ?_); rotate_left 2; (focus rfl); (focus rfl)) | (refine DW.askp (b := ?_) (d := ?_) ?_ ?_ (fun h => ?_) (fun h => ?_); rotate_left 2; (focus rfl); (focus rfl))); (fail_if_success (focus (simp only [reduceCtorEq] at h))); all_goals first | (simp only [Bool.and_eq_true, Bool.and_eq_false_iff, Bool.or_eq_true, Bool.or_eq_false_iff, Bool.not_eq_true', Bool.not_eq_false', beq_iff_eq, beq_eq_false_iff_ne, ne_eq, bne_iff_ne, bne_eq_false_iff_eq, decide_eq_true_eq, decide_eq_false_iff_not, Decidable.not_not] at h; first | done | (exfalso; omega; done) | skip) | skip)
      | (refine WK.cond (b := ?_) ?_ (fun h => ?_) (fun h => ?_); rotate_left 1; (focus rfl); all_goals first | (simp only [reduceCtorEq] at h; done) | (simp only [Bool.and_eq_true, Bool.and_eq_false_iff, Bool.or_eq_true, Bool.or_eq_false_iff, Bool.not_eq_true', Bool.not_eq_false', beq_iff_eq, beq_eq_false_iff_ne, ne_eq, bne_iff_ne, bne_eq_false_iff_eq, decide_eq_true_eq, decide_eq_false_iff_not, Decidable.not_not] at h; first | done | (exfalso; omega; done) | skip) | skip))
    refine WK.forS i (fun k => ∀ k' (hk : k' < i), k' < k → ¬ meetI l[i] (l[k']'(by omega))) (fun k => ⟨25, [(0, .tr l.length (encs spC l)), (3, .v (.int .i64 i)), (4, .v (.int .i64 k))], []⟩) ⟨by intros; omega, ?_⟩ (fun k hk ho2 => ?_) (fun ho2 => ?_)
    · (refine Weak.cut' rfl rfl ?_; (first | (simp only [go_sem, reduceIte] <;> (try and_intros) <;> first | rfl | omega | grind)))
    · have hx : l[i]? = some l[i] := List.getElem?_eq_getElem hi
      have hy : l[k]? = some (l[k]'(by omega)) := List.getElem?_eq_getElem _
      have hra := hr _ (List.getElem_mem hi)
      have hrb := hr _ (List.getElem_mem (show k < l.length by omega))
      have hbad : meetI l[i] (l[k]'(by omega)) → ¬ apartI l := fun h ha => ha i hi k hk h
      have hgo : ¬ meetI l[i] (l[k]'(by omega)) → ∀ k' (hk' : k' < i), k' < k + 1 → ¬ meetI l[i] (l[k']'(by omega)) := fun h k' hk' h1 => by
        rcases Nat.lt_succ_iff_lt_or_eq.1 h1 with h2 | h2
        · exact ho2 k' hk' h2
        · subst h2; exact h
      generalize l[i] = a at *
      generalize (l[k]'(by omega)) = b at *
      obtain ⟨r, n, c⟩ := a
      obtain ⟨r', n', c'⟩ := b
      have hle : i * 3 + 3 ≤ l.length * 3 := by omega
      have hle2 : k * 3 + 3 ≤ l.length * 3 := by omega
      have hat : ((encs spC l).drop (i * 3)).take 3 = [.v (.int .u16 r), .v (.int .u32 n), .v (.int .i64 c)] := encs_at spC_length hx
      have hat2 : ((encs spC l).drop (k * 3)).take 3 = [.v (.int .u16 r'), .v (.int .u32 n'), .v (.int .i64 c')] := encs_at spC_length hy
      have hne : encs spC l ≠ [] := encs_ne spC_length (by decide) hx
      repeat' (first
        | refine WK.seq ?_
        | refine WK.reg ?_
        | refine IL.nil ?_
        | refine WK.skip ?_
        | refine WK.block ?_
        | refine WK.exit_here ?_
        | refine WK.exit_out1 (by decide) ?_
        | refine WK.exit_out2 (by decide) (by decide) ?_
        | refine WK.drawnS (id := 7) mixed [] [8] [0, 0, 0, 0, 0, 0, 0, 0, 0] [0, 0, 0, 0, 0, 0, 0, 0, 0] (by decide +kernel) ?_
        | refine DW.nil ?_
        | (with_reducible refine IL.wr ?_ ?_; (focus (first | exact wrap_i64 (by omega) (by omega) | exact wrap_u64 (by omega) (by omega) | exact wrap_u32 (by omega) (by omega) | exact wrap_u16 (by omega) (by omega) | exact wrap_u8 (by omega) (by omega))))
        | (with_reducible refine DW.wr ?_ ?_; (focus (first | exact wrap_i64 (by omega) (by omega) | exact wrap_u64 (by omega) (by omega) | exact wrap_u32 (by omega) (by omega) | exact wrap_u16 (by omega) (by omega) | exact wrap_u8 (by omega) (by omega))))
        | (refine IL.stepg (σ' := ?_) ttok (by first | exact .inl rfl | (refine Gok.mk2 (b := ?_) rfl ?_ ?_; rotate_left 1; (focus rfl); (focus (with_reducible rfl)))) (fun K hK => ?_) ?_; rotate_left 1; (focus (simp only [go_sem, reduceIte, hat, hle, hat2, hle2]; first | exact hK | (and_intros <;> first | exact hK | omega | assumption | rfl | decide))))
        | (refine IL.no (σ' := ?_) (by first | (refine Gno.mkT (b := ?_) rfl ?_ ?_; rotate_left 1; (focus rfl); (focus (with_reducible rfl))) | (refine Gno.mkF (b := ?_) rfl ?_ ?_; rotate_left 1; (focus rfl); (focus (with_reducible rfl))) | exact Gno.mkU rfl rfl) (fun K hK => ?_) ?_; rotate_left 1; (focus (simp only [go_sem, reduceIte]; exact hK)))
        | (refine DW.rd (L := ?_) (T' := ?_) ttok rfl rfl (by decide) ?_ ?_ (fun K hK => ?_) ?_ ?_; rotate_left 2; (focus rfl); (focus (first | exact .inl rfl | (refine Gok.mk2 (b := ?_) rfl ?_ ?_; rotate_left 1; (focus rfl); (focus (with_reducible rfl))))); (focus (simp only [go_sem, reduceIte, hat, hle, hat2, hle2]; first | exact hK | (and_intros <;> first | exact hK | omega | assumption | rfl | decide))); (focus (first | exact ⟨_, rfl⟩ | rfl)))
        | (refine DW.rdm (L := ?_) (T' := ?_) ttok rfl rfl ?_ ?_ (fun K hK => ?_) ?_ ?_; rotate_left 2; (focus rfl); (focus (first | exact .inl rfl | (refine Gok.mk2 (b := ?_) rfl ?_ ?_; rotate_left 1; (focus rfl); (focus (with_reducible rfl))))); (focus (simp only [go_sem, reduceIte, hat, hle, hat2, hle2]; first | exact hK | (and_intros <;> first | exact hK | omega | assumption | rfl | decide))); (focus (first | exact ⟨_, rfl⟩ | rfl)))
        | (refine DW.bl (L' := ?_) (T' := ?_) ttok rfl ?_ (fun K hK => ?_) ?_ ?_ ?_; rotate_left 2; (focus (first | exact .inl rfl | (refine Gok.mk2 (b := ?_) rfl ?_ ?_; rotate_left 1; (focus rfl); (focus (with_reducible rfl))))); (focus (simp only [go_sem, reduceIte, hat, hle, hat2, hle2]; first | exact hK | (and_intros <;> first | exact hK | omega | assumption | rfl | decide))); (focus (first | exact ⟨_, rfl⟩ | rfl)); (focus (first | exact .inl rfl | exact .inr (LEX.refl _ _) | exact .inr (LE.app _ _).lex | exact .inr (LEX.of (by simp only [go_sem, List.contains_cons, List.contains_nil, Nat.reduceBEq, Bool.or_false, Bool.false_or, Nat.reduceAdd, true_or, false_or, true_and]; first | done | trivial | (and_intros <;> first | exact ⟨_, rfl⟩ | trivial))))))
        | (refine DW.no (L := ?_) (T' := ?_) ?_ rfl ?_ (fun K hK => ?_) ?_ ?_; rotate_left 2; (focus rfl); (focus (first | (refine Gno.mkT (b := ?_) rfl ?_ ?_; rotate_left 1; (focus rfl); (focus (with_reducible rfl))) | (refine Gno.mkF (b := ?_) rfl ?_ ?_; rotate_left 1; (focus rfl); (focus (with_reducible rfl))) | exact Gno.mkU rfl rfl)); (focus (simp only [go_sem, reduceIte]; exact hK)); (focus (first | exact ⟨_, rfl⟩ | rfl)))
        | (refine DW.nob (T' := ?_) rfl ?_ (fun K hK => ?_) ?_ ?_; rotate_left 1; (focus (first | (refine Gno.mkT (b := ?_) rfl ?_ ?_; rotate_left 1; (focus rfl); (focus (with_reducible rfl))) | (refine Gno.mkF (b := ?_) rfl ?_ ?_; rotate_left 1; (focus rfl); (focus (with_reducible rfl))) | exact Gno.mkU rfl rfl)); (focus (simp only [go_sem, reduceIte]; exact hK)); (focus (first | exact ⟨_, rfl⟩ | rfl)))
        | (refine DW.callS (f := 40) (xs := ?_) (A := ?_) (A' := ?_) (rr := ?_) (L' := ?_) (T' := ?_) (bs := ?_) (ks := ?_) (sets := ?_) (pushes := ?_) ttok ent40 [.bor, .bor] true rfl ?_ ?_ ?_ ?_ ?_ ?_ ?_ ?_ ?_ (fun K hK => ?_) ?_ ?_ ?_; rotate_left 10; (focus (first | exact .inl rfl | (refine Gok.mk2 (b := ?_) rfl ?_ ?_; rotate_left 1; (focus rfl); (focus (with_reducible rfl))))); (focus rfl); (focus (first | rfl | (simp only [go_sem, reduceIte, hat, hle, hat2, hle2] <;> rfl))); (focus (refine meet_call _ _ _ _ _ _ ?_ ?_ <;> first | omega | assumption | decide | simp)); (focus rfl); (focus rfl); (focus (first | rfl | simp only [go_sem])); (focus (first | rfl | (simp only [go_sem, reduceIte, hat, hle, hat2, hle2] <;> rfl))); (focus simp); (focus (simp only [go_sem, reduceIte, hat, hle, hat2, hle2]; first | exact hK | (and_intros <;> first | exact hK | omega | assumption | rfl | decide))); (focus (first | exact ⟨_, rfl⟩ | rfl)); (focus (first | exact .inl rfl | exact .inr (LEX.refl _ _) | exact .inr (LE.app _ _).lex | exact .inr (LEX.of (by simp only [go_sem, List.contains_cons, List.contains_nil, Nat.reduceBEq, Bool.or_false, Bool.false_or, Nat.reduceAdd, true_or, false_or, true_and]; first | done | trivial | (and_intros <;> first | exact ⟨_, rfl⟩ | trivial))))))
        | ((first | (refine IL.askg (b := ?_) (d := ?_) ?_ ?_ (fun h => ?_) (fun h => ?_); rotate_left 2; (focus rfl); (focus rfl)) | (refine DW.askg (b := ?_) (d := ?_) ?_ ?_ (fun h => ?_) (fun h => ?_); rotate_left 2; (focus rfl); (focus rfl)) | (refine IL.askp (b := ?_) (d := ?_) ?_ ?_ (fun h => ?_) (fun h => ?_); rotate_left 2; (focus rfl); (focus rfl)) | (refine DW.askp (b := ?_) (d := ?_) ?_ ?_ (fun h => ?_) (fun h => ?_); rotate_left 2; (focus rfl); (focus rfl))); (fail_if_success (focus (simp only [reduceCtorEq] at h))); all_goals first | (simp only [Bool.and_eq_true, Bool.and_eq_false_iff, Bool.or_eq_true, Bool.or_eq_false_iff, Bool.not_eq_true', Bool.not_eq_false', beq_iff_eq, beq_eq_false_iff_ne, ne_eq, bne_iff_ne, bne_eq_false_iff_eq, decide_eq_true_eq, decide_eq_false_iff_not, Decidable.not_not] at h; first | done | (exfalso; omega; done) | skip) | skip)
        | (refine WK.cond (b := ?_) ?_ (fun h => ?_) (fun h => ?_); rotate_left 1; (focus rfl); all_goals first | (simp only [reduceCtorEq] at h; done) | (simp only [Bool.and_eq_true, Bool.and_eq_false_iff, Bool.or_eq_true, Bool.or_eq_false_iff, Bool.not_eq_true', Bool.not_eq_false', beq_iff_eq, beq_eq_false_iff_ne, ne_eq, bne_iff_ne, bne_eq_false_iff_eq, decide_eq_true_eq, decide_eq_false_iff_not, Decidable.not_not] at h; first | done | (exfalso; omega; done) | skip) | skip))
      all_goals try ((first | refine WK.ret ⟨.inr rfl, Fin.of (q' := ?_) (A2 := ?_) (k1 := ?_) (k2 := ?_) ?_ ?_ ?_ ?_ ?_⟩ | refine ⟨.inl rfl, Fin.of (q' := ?_) (A2 := ?_) (k1 := ?_) (k2 := ?_) ?_ ?_ ?_ ?_ ?_⟩ | refine ⟨.inl trivial, Fin.of (q' := ?_) (A2 := ?_) (k1 := ?_) (k2 := ?_) ?_ ?_ ?_ ?_ ?_⟩); rotate_left 4; (focus (first | rfl | (simp only [go_sem, show Try.f38.results.toList = [.tmp 2] from rfl, reduceIte] <;> rfl))); (focus (first | rfl | (simp only [go_sem, reduceIte] <;> rfl))); (focus rfl); rotate_left 1; (focus (first | rfl | skip)); all_goals try with_reducible rfl)
      · rw [decide_eq_false (hbad (by assumption))]
      · refine ⟨hgo (by assumption), ?_⟩
        (refine Weak.cut' rfl rfl ?_; (first | (simp only [go_sem, reduceIte] <;> (try and_intros) <;> first | rfl | omega | grind)))
    · repeat' (first
        | refine WK.seq ?_
        | refine WK.reg ?_
        | refine IL.nil ?_
        | refine WK.skip ?_
        | refine WK.block ?_
        | refine WK.exit_here ?_
        | refine WK.exit_out1 (by decide) ?_
        | refine WK.exit_out2 (by decide) (by decide) ?_
        | refine WK.drawnS (id := 7) mixed [] [8] [0, 0, 0, 0, 0, 0, 0, 0, 0] [0, 0, 0, 0, 0, 0, 0, 0, 0] (by decide +kernel) ?_
        | refine DW.nil ?_
        | (with_reducible refine IL.wr ?_ ?_; (focus (first | exact wrap_i64 (by omega) (by omega) | exact wrap_u64 (by omega) (by omega) | exact wrap_u32 (by omega) (by omega) | exact wrap_u16 (by omega) (by omega) | exact wrap_u8 (by omega) (by omega))))
        | (with_reducible refine DW.wr ?_ ?_; (focus (first | exact wrap_i64 (by omega) (by omega) | exact wrap_u64 (by omega) (by omega) | exact wrap_u32 (by omega) (by omega) | exact wrap_u16 (by omega) (by omega) | exact wrap_u8 (by omega) (by omega))))
        | (refine IL.stepg (σ' := ?_) ttok (by first | exact .inl rfl | (refine Gok.mk2 (b := ?_) rfl ?_ ?_; rotate_left 1; (focus rfl); (focus (with_reducible rfl)))) (fun K hK => ?_) ?_; rotate_left 1; (focus (simp only [go_sem, reduceIte]; first | exact hK | (and_intros <;> first | exact hK | omega | assumption | rfl | decide))))
        | (refine IL.no (σ' := ?_) (by first | (refine Gno.mkT (b := ?_) rfl ?_ ?_; rotate_left 1; (focus rfl); (focus (with_reducible rfl))) | (refine Gno.mkF (b := ?_) rfl ?_ ?_; rotate_left 1; (focus rfl); (focus (with_reducible rfl))) | exact Gno.mkU rfl rfl) (fun K hK => ?_) ?_; rotate_left 1; (focus (simp only [go_sem, reduceIte]; exact hK)))
        | (refine DW.rd (L := ?_) (T' := ?_) ttok rfl rfl (by decide) ?_ ?_ (fun K hK => ?_) ?_ ?_; rotate_left 2; (focus rfl); (focus (first | exact .inl rfl | (refine Gok.mk2 (b := ?_) rfl ?_ ?_; rotate_left 1; (focus rfl); (focus (with_reducible rfl))))); (focus (simp only [go_sem, reduceIte]; first | exact hK | (and_intros <;> first | exact hK | omega | assumption | rfl | decide))); (focus (first | exact ⟨_, rfl⟩ | rfl)))
        | (refine DW.rdm (L := ?_) (T' := ?_) ttok rfl rfl ?_ ?_ (fun K hK => ?_) ?_ ?_; rotate_left 2; (focus rfl); (focus (first | exact .inl rfl | (refine Gok.mk2 (b := ?_) rfl ?_ ?_; rotate_left 1; (focus rfl); (focus (with_reducible rfl))))); (focus (simp only [go_sem, reduceIte]; first | exact hK | (and_intros <;> first | exact hK | omega | assumption | rfl | decide))); (focus (first | exact ⟨_, rfl⟩ | rfl)))
        | (refine DW.bl (L' := ?_) (T' := ?_) ttok rfl ?_ (fun K hK => ?_) ?_ ?_ ?_; rotate_left 2; (focus (first | exact .inl rfl | (refine Gok.mk2 (b := ?_) rfl ?_ ?_; rotate_left 1; (focus rfl); (focus (with_reducible rfl))))); (focus (simp only [go_sem, reduceIte]; first | exact hK | (and_intros <;> first | exact hK | omega | assumption | rfl | decide))); (focus (first | exact ⟨_, rfl⟩ | rfl)); (focus (first | exact .inl rfl | exact .inr (LEX.refl _ _) | exact .inr (LE.app _ _).lex | exact .inr (LEX.of (by simp only [go_sem, List.contains_cons, List.contains_nil, Nat.reduceBEq, Bool.or_false, Bool.false_or, Nat.reduceAdd, true_or, false_or, true_and]; first | done | trivial | (and_intros <;> first | exact ⟨_, rfl⟩ | trivial))))))
        | (refine DW.no (L := ?_) (T' := ?_) ?_ rfl ?_ (fun K hK => ?_) ?_ ?_; rotate_left 2; (focus rfl); (focus (first | (refine Gno.mkT (b := ?_) rfl ?_ ?_; rotate_left 1; (focus rfl); (focus (with_reducible rfl))) | (refine Gno.mkF (b := ?_) rfl ?_ ?_; rotate_left 1; (focus rfl); (focus (with_reducible rfl))) | exact Gno.mkU rfl rfl)); (focus (simp only [go_sem, reduceIte]; exact hK)); (focus (first | exact ⟨_, rfl⟩ | rfl)))
        | (refine DW.nob (T' := ?_) rfl ?_ (fun K hK => ?_) ?_ ?_; rotate_left 1; (focus (first | (refine Gno.mkT (b := ?_) rfl ?_ ?_; rotate_left 1; (focus rfl); (focus (with_reducible rfl))) | (refine Gno.mkF (b := ?_) rfl ?_ ?_; rotate_left 1; (focus rfl); (focus (with_reducible rfl))) | exact Gno.mkU rfl rfl)); (focus (simp only [go_sem, reduceIte]; exact hK)); (focus (first | exact ⟨_, rfl⟩ | rfl)))
        | (refine DW.callS (f := 40) (xs := ?_) (A := ?_) (A' := ?_) (rr := ?_) (L' := ?_) (T' := ?_) (bs := ?_) (ks := ?_) (sets := ?_) (pushes := ?_) ttok ent40 [.bor, .bor] true rfl ?_ ?_ ?_ ?_ ?_ ?_ ?_ ?_ ?_ (fun K hK => ?_) ?_ ?_ ?_; rotate_left 10; (focus (first | exact .inl rfl | (refine Gok.mk2 (b := ?_) rfl ?_ ?_; rotate_left 1; (focus rfl); (focus (with_reducible rfl))))); (focus rfl); (focus (first | rfl | (simp only [go_sem, reduceIte] <;> rfl))); (focus (refine meet_call _ _ _ _ _ _ ?_ ?_ <;> first | omega | assumption | decide | simp)); (focus rfl); (focus rfl); (focus (first | rfl | simp only [go_sem])); (focus (first | rfl | (simp only [go_sem, reduceIte] <;> rfl))); (focus simp); (focus (simp only [go_sem, reduceIte]; first | exact hK | (and_intros <;> first | exact hK | omega | assumption | rfl | decide))); (focus (first | exact ⟨_, rfl⟩ | rfl)); (focus (first | exact .inl rfl | exact .inr (LEX.refl _ _) | exact .inr (LE.app _ _).lex | exact .inr (LEX.of (by simp only [go_sem, List.contains_cons, List.contains_nil, Nat.reduceBEq, Bool.or_false, Bool.false_or, Nat.reduceAdd, true_or, false_or, true_and]; first | done | trivial | (and_intros <;> first | exact ⟨_, rfl⟩ | trivial))))))
        | ((first | (refine IL.askg (b := ?_) (d := ?_) ?_ ?_ (fun h => ?_) (fun h => ?_); rotate_left 2; (focus rfl); (focus rfl)) | (refine DW.askg (b := ?_) (d := ?_) ?_ ?_ (fun h => ?_) (fun h => ?_); rotate_left 2; (focus rfl); (focus rfl)) | (refine IL.askp (b := ?_) (d := ?_) ?_ ?_ (fun h => ?_) (fun h => ?_); rotate_left 2; (focus rfl); (focus rfl)) | (refine DW.askp (b := ?_) (d := ?_) ?_ ?_ (fun h => ?_) (fun h => ?_); rotate_left 2; (focus rfl); (focus rfl))); (fail_if_success (focus (simp only [reduceCtorEq] at h))); all_goals first | (simp only [Bool.and_eq_true, Bool.and_eq_false_iff, Bool.or_eq_true, Bool.or_eq_false_iff, Bool.not_eq_true', Bool.not_eq_false', beq_iff_eq, beq_eq_false_iff_ne, ne_eq, bne_iff_ne, bne_eq_false_iff_eq, decide_eq_true_eq, decide_eq_false_iff_not, Decidable.not_not] at h; first | done | (exfalso; omega; done) | skip) | skip)
        | (refine WK.cond (b := ?_) ?_ (fun h => ?_) (fun h => ?_); rotate_left 1; (focus rfl); all_goals first | (simp only [reduceCtorEq] at h; done) | (simp only [Bool.and_eq_true, Bool.and_eq_false_iff, Bool.or_eq_true, Bool.or_eq_false_iff, Bool.not_eq_true', Bool.not_eq_false', beq_iff_eq, beq_eq_false_iff_ne, ne_eq, bne_iff_ne, bne_eq_false_iff_eq, decide_eq_true_eq, decide_eq_false_iff_not, Decidable.not_not] at h; first | done | (exfalso; omega; done) | skip) | skip))
      all_goals try ((first | refine WK.ret ⟨.inr rfl, Fin.of (q' := ?_) (A2 := ?_) (k1 := ?_) (k2 := ?_) ?_ ?_ ?_ ?_ ?_⟩ | refine ⟨.inl rfl, Fin.of (q' := ?_) (A2 := ?_) (k1 := ?_) (k2 := ?_) ?_ ?_ ?_ ?_ ?_⟩ | refine ⟨.inl trivial, Fin.of (q' := ?_) (A2 := ?_) (k1 := ?_) (k2 := ?_) ?_ ?_ ?_ ?_ ?_⟩); rotate_left 4; (focus (first | rfl | (simp only [go_sem, show Try.f38.results.toList = [.tmp 2] from rfl, reduceIte] <;> rfl))); (focus (first | rfl | (simp only [go_sem, reduceIte] <;> rfl))); (focus rfl); rotate_left 1; (focus (first | rfl | skip)); all_goals try with_reducible rfl)
      refine ⟨fun i' hi' k hk h1 => by
        rcases Nat.lt_succ_iff_lt_or_eq.1 h1 with h2 | h2
        · exact ho i' hi' k hk h2
        · subst h2; exact ho2 k hk hk, ?_⟩
      (refine Weak.cut' rfl rfl ?_; (first | (simp only [go_sem, reduceIte] <;> (try and_intros) <;> first | rfl | omega | grind)))
  · repeat' (first
      | refine WK.seq ?_
      | refine WK.reg ?_
      | refine IL.nil ?_
      | refine WK.skip ?_
      | refine WK.block ?_
      | refine WK.exit_here ?_
      | refine WK.exit_out1 (by decide) ?_
      | refine WK.exit_out2 (by decide) (by decide) ?_
      | refine WK.drawnS (id := 7) mixed [] [8] [0, 0, 0, 0, 0, 0, 0, 0, 0] [0, 0, 0, 0, 0, 0, 0, 0, 0] (by decide +kernel) ?_
      | refine DW.nil ?_
      | (with_reducible refine IL.wr ?_ ?_; (focus (first | exact wrap_i64 (by omega) (by omega) | exact wrap_u64 (by omega) (by omega) | exact wrap_u32 (by omega) (by omega) | exact wrap_u16 (by omega) (by omega) | exact wrap_u8 (by omega) (by omega))))
      | (with_reducible refine DW.wr ?_ ?_; (focus (first | exact wrap_i64 (by omega) (by omega) | exact wrap_u64 (by omega) (by omega) | exact wrap_u32 (by omega) (by omega) | exact wrap_u16 (by omega) (by omega) | exact wrap_u8 (by omega) (by omega))))
      | (refine IL.stepg (σ' := ?_) ttok (by first | exact .inl rfl | (refine Gok.mk2 (b := ?_) rfl ?_ ?_; rotate_left 1; (focus rfl); (focus (with_reducible rfl)))) (fun K hK => ?_) ?_; rotate_left 1; (focus (simp only [go_sem, reduceIte]; first | exact hK | (and_intros <;> first | exact hK | omega | assumption | rfl | decide))))
      | (refine IL.no (σ' := ?_) (by first | (refine Gno.mkT (b := ?_) rfl ?_ ?_; rotate_left 1; (focus rfl); (focus (with_reducible rfl))) | (refine Gno.mkF (b := ?_) rfl ?_ ?_; rotate_left 1; (focus rfl); (focus (with_reducible rfl))) | exact Gno.mkU rfl rfl) (fun K hK => ?_) ?_; rotate_left 1; (focus (simp only [go_sem, reduceIte]; exact hK)))
      | (refine DW.rd (L := ?_) (T' := ?_) ttok rfl rfl (by decide) ?_ ?_ (fun K hK => ?_) ?_ ?_; rotate_left 2; (focus rfl); (focus (first | exact .inl rfl | (refine Gok.mk2 (b := ?_) rfl ?_ ?_; rotate_left 1; (focus rfl); (focus (with_reducible rfl))))); (focus (simp only [go_sem, reduceIte]; first | exact hK | (and_intros <;> first | exact hK | omega | assumption | rfl | decide))); (focus (first | exact ⟨_, rfl⟩ | rfl)))
      | (refine DW.rdm (L := ?_) (T' := ?_) ttok rfl rfl ?_ ?_ (fun K hK => ?_) ?_ ?_; rotate_left 2; (focus rfl); (focus (first | exact .inl rfl | (refine Gok.mk2 (b := ?_) rfl ?_ ?_; rotate_left 1; (focus rfl); (focus (with_reducible rfl))))); (focus (simp only [go_sem, reduceIte]; first | exact hK | (and_intros <;> first | exact hK | omega | assumption | rfl | decide))); (focus (first | exact ⟨_, rfl⟩ | rfl)))
      | (refine DW.bl (L' := ?_) (T' := ?_) ttok rfl ?_ (fun K hK => ?_) ?_ ?_ ?_; rotate_left 2; (focus (first | exact .inl rfl | (refine Gok.mk2 (b := ?_) rfl ?_ ?_; rotate_left 1; (focus rfl); (focus (with_reducible rfl))))); (focus (simp only [go_sem, reduceIte]; first | exact hK | (and_intros <;> first | exact hK | omega | assumption | rfl | decide))); (focus (first | exact ⟨_, rfl⟩ | rfl)); (focus (first | exact .inl rfl | exact .inr (LEX.refl _ _) | exact .inr (LE.app _ _).lex | exact .inr (LEX.of (by simp only [go_sem, List.contains_cons, List.contains_nil, Nat.reduceBEq, Bool.or_false, Bool.false_or, Nat.reduceAdd, true_or, false_or, true_and]; first | done | trivial | (and_intros <;> first | exact ⟨_, rfl⟩ | trivial))))))
      | (refine DW.no (L := ?_) (T' := ?_) ?_ rfl ?_ (fun K hK => ?_) ?_ ?_; rotate_left 2; (focus rfl); (focus (first | (refine Gno.mkT (b := ?_) rfl ?_ ?_; rotate_left 1; (focus rfl); (focus (with_reducible rfl))) | (refine Gno.mkF (b := ?_) rfl ?_ ?_; rotate_left 1; (focus rfl); (focus (with_reducible rfl))) | exact Gno.mkU rfl rfl)); (focus (simp only [go_sem, reduceIte]; exact hK)); (focus (first | exact ⟨_, rfl⟩ | rfl)))
      | (refine DW.nob (T' := ?_) rfl ?_ (fun K hK => ?_) ?_ ?_; rotate_left 1; (focus (first | (refine Gno.mkT (b := ?_) rfl ?_ ?_; rotate_left 1; (focus rfl); (focus (with_reducible rfl))) | (refine Gno.mkF (b := ?_) rfl ?_ ?_; rotate_left 1; (focus rfl); (focus (with_reducible rfl))) | exact Gno.mkU rfl rfl)); (focus (simp only [go_sem, reduceIte]; exact hK)); (focus (first | exact ⟨_, rfl⟩ | rfl)))
      | (refine DW.callS (f := 40) (xs := ?_) (A := ?_) (A' := ?_) (rr := ?_) (L' := ?_) (T' := ?_) (bs := ?_) (ks := ?_) (sets := ?_) (pushes := ?_) ttok ent40 [.bor, .bor] true rfl ?_ ?_ ?_ ?_ ?_ ?_ ?_ ?_ ?_ (fun K hK => ?_) ?_ ?_ ?_; rotate_left 10; (focus (first | exact .inl rfl | (refine Gok.mk2 (b := ?_) rfl ?_ ?_; rotate_left 1; (focus rfl); (focus (with_reducible rfl))))); (focus rfl); (focus (first | rfl | (simp only [go_sem, reduceIte] <;> rfl))); (focus (refine meet_call _ _ _ _ _ _ ?_ ?_ <;> first | omega | assumption | decide | simp)); (focus rfl); (focus rfl); (focus (first | rfl | simp only [go_sem])); (focus (first | rfl | (simp only [go_sem, reduceIte] <;> rfl))); (focus simp); (focus (simp only [go_sem, reduceIte]; first | exact hK | (and_intros <;> first | exact hK | omega | assumption | rfl | decide))); (focus (first | exact ⟨_, rfl⟩ | rfl)); (focus (first | exact .inl rfl | exact .inr (LEX.refl _ _) | exact .inr (LE.app _ _).lex | exact .inr (LEX.of (by simp only [go_sem, List.contains_cons, List.contains_nil, Nat.reduceBEq, Bool.or_false, Bool.false_or, Nat.reduceAdd, true_or, false_or, true_and]; first | done | trivial | (and_intros <;> first | exact ⟨_, rfl⟩ | trivial))))))
      | ((first | (refine IL.askg (b := ?_) (d := ?_) ?_ ?_ (fun h => ?_) (fun h => ?_); rotate_left 2; (focus rfl); (focus rfl)) | (refine DW.askg (b := ?_) (d := ?_) ?_ ?_ (fun h => ?_) (fun h => ?_); rotate_left 2; (focus rfl); (focus rfl)) | (refine IL.askp (b := ?_) (d := ?_) ?_ ?_ (fun h => ?_) (fun h => ?_); rotate_left 2; (focus rfl); (focus rfl)) | (refine DW.askp (b := ?_) (d := ?_) ?_ ?_ (fun h => ?_) (fun h => ?_); rotate_left 2; (focus rfl); (focus rfl))); (fail_if_success (focus (simp only [reduceCtorEq] at h))); all_goals first | (simp only [Bool.and_eq_true, Bool.and_eq_false_iff, Bool.or_eq_true, Bool.or_eq_false_iff, Bool.not_eq_true', Bool.not_eq_false', beq_iff_eq, beq_eq_false_iff_ne, ne_eq, bne_iff_ne, bne_eq_false_iff_eq, decide_eq_true_eq, decide_eq_false_iff_not, Decidable.not_not] at h; first | done | (exfalso; omega; done) | skip) | skip)
      | (refine WK.cond (b := ?_) ?_ (fun h => ?_) (fun h => ?_); rotate_left 1; (focus rfl); all_goals first | (simp only [reduceCtorEq] at h; done) | (simp only [Bool.and_eq_true, Bool.and_eq_false_iff, Bool.or_eq_true, Bool.or_eq_false_iff, Bool.not_eq_true', Bool.not_eq_false', beq_iff_eq, beq_eq_false_iff_ne, ne_eq, bne_iff_ne, bne_eq_false_iff_eq, decide_eq_true_eq, decide_eq_false_iff_not, Decidable.not_not] at h; first | done | (exfalso; omega; done) | skip) | skip))
    all_goals try ((first | refine WK.ret ⟨.inr rfl, Fin.of (q' := ?_) (A2 := ?_) (k1 := ?_) (k2 := ?_) ?_ ?_ ?_ ?_ ?_⟩ | refine ⟨.inl rfl, Fin.of (q' := ?_) (A2 := ?_) (k1 := ?_) (k2 := ?_) ?_ ?_ ?_ ?_ ?_⟩ | refine ⟨.inl trivial, Fin.of (q' := ?_) (A2 := ?_) (k1 := ?_) (k2 := ?_) ?_ ?_ ?_ ?_ ?_⟩); rotate_left 4; (focus (first | rfl | (simp only [go_sem, show Try.f38.results.toList = [.tmp 2] from rfl, reduceIte] <;> rfl))); (focus (first | rfl | (simp only [go_sem, reduceIte] <;> rfl))); (focus rfl); rotate_left 1; (focus (first | rfl | skip)); all_goals try with_reducible rfl)
    have ha : apartI l := fun i hi k hk => ho i hi k hk hi
    rw [decide_eq_true ha]
def fit7Go : List Sp → Int → Int
  | [], _ => 0
  | s :: r, n => if rightI s then (if 1024 < n + s.2.2 then 15 else fit7Go r (n + s.2.2)) else 11
theorem fit7Go_ok : ∀ (l : List Sp) (n : Int), n ≤ 1024 → fit7Go l n = 0 → (∀ s ∈ l, rightI s) ∧ n + tot l ≤ 1024
  | [], n, hn, _ => ⟨by simp, by simp [tot]; omega⟩
  | s :: r, n, hn, h => by
    rw [fit7Go] at h
    split at h
    · rename_i h1
      split at h
      · cases h
      · rename_i h2
        obtain ⟨g1, g2⟩ := fit7Go_ok r (n + s.2.2) (by omega) h
        refine ⟨fun x hx => ?_, ?_⟩
        · rcases List.mem_cons.1 hx with rfl | hx
          · exact h1
          · exact g1 x hx
        · simp only [tot, List.map_cons, List.sum_cons] at g2 ⊢; omega
    · cases h
open Classical in
noncomputable def fit7 (l : List Sp) : Int := if l = [] then 11 else if fit7Go l 0 = 0 then (if apartI l then 0 else 16) else fit7Go l 0
theorem fit7_ok {l : List Sp} (h : fit7 l = 0) : (∀ s ∈ l, rightI s) ∧ tot l ≤ 1024 := by
  unfold fit7 at h
  split at h
  · cases h
  · split at h
    · rename_i h2
      have := fit7Go_ok l 0 (by decide) h2
      exact ⟨this.1, by omega⟩
    · rename_i h2; exact absurd h h2
theorem fit7_call (l : List Sp) (nn : Nat) (hnn : nn = l.length) (hl : l.length ≤ 1000) : SCall Try.prog 27 [.tr nn (encs spC l)] (.v (.int .i64 (fit7 l))) [.tr nn (encs spC l)] := by
  subst hnn
  by_cases hnil : l = []
  · subst hnil
    have e : fit7 [] = 11 := by simp [fit7]
    rw [e]
    refine SCall.of_body' (TT := TT) (fun _ => false) [false] ttok Try.func27 rfl (Nat.le_of_ble_eq_true rfl) rfl fun fx hfx => WK.top ?_
    simp only [impl, imp, argT, List.append_nil, List.map_nil, List.nil_append, show Try.f27.ntmps = 35 from rfl, Nat.zero_add, Nat.reduceAdd]
    repeat' (first
      | refine WK.seq ?_
      | refine WK.reg ?_
      | refine IL.nil ?_
      | refine WK.skip ?_
      | refine WK.block ?_
      | refine WK.exit_here ?_
      | refine WK.exit_out1 (by decide) ?_
      | refine WK.exit_out2 (by decide) (by decide) ?_
      | (with_reducible refine IL.wr ?_ ?_; (focus (first | exact wrap_i64 (by omega) (by omega) | exact wrap_u64 (by omega) (by omega) | exact wrap_u32 (by omega) (by omega) | exact wrap_u16 (by omega) (by omega) | exact wrap_u8 (by omega) (by omega))))
      | (refine IL.stepg (σ' := ?_) ttok (by first | exact .inl rfl | (refine Gok.mk2 (b := ?_) rfl ?_ ?_; rotate_left 1; (focus rfl); (focus (with_reducible rfl)))) (fun K hK => ?_) ?_; rotate_left 1; (focus (simp only [go_sem, reduceIte, List.length_nil]; first | exact hK | (and_intros <;> first | exact hK | omega | assumption | rfl | decide))))
      | (refine IL.no (σ' := ?_) (by first | (refine Gno.mkT (b := ?_) rfl ?_ ?_; rotate_left 1; (focus rfl); (focus (with_reducible rfl))) | (refine Gno.mkF (b := ?_) rfl ?_ ?_; rotate_left 1; (focus rfl); (focus (with_reducible rfl))) | exact Gno.mkU rfl rfl) (fun K hK => ?_) ?_; rotate_left 1; (focus (simp only [go_sem, reduceIte]; exact hK)))
      | (refine IL.callS (f := 37) (xs := ?_) (A := ?_) (A' := ?_) (rr := ?_) (σ' := ?_) (bs := ?_) (ks := ?_) (sets := ?_) (pushes := ?_) ttok ent37 [.bor] true ?_ ?_ ?_ ?_ ?_ ?_ ?_ ?_ ?_ (fun K hK => ?_) ?_; rotate_left 9; (focus (first | exact .inl rfl | (refine Gok.mk2 (b := ?_) rfl ?_ ?_; rotate_left 1; (focus rfl); (focus (with_reducible rfl))))); (focus rfl); (focus (first | rfl | (simp only [go_sem, reduceIte, List.length_nil] <;> rfl))); (focus (exact refRight_call (_, _, _))); (focus rfl); (focus rfl); (focus (first | rfl | simp only [go_sem])); (focus (first | rfl | (simp only [go_sem, reduceIte, List.length_nil] <;> rfl))); (focus simp); (focus (simp only [go_sem, reduceIte, List.length_nil]; exact hK)))
      | (refine IL.callS (f := 38) (xs := ?_) (A := ?_) (A' := ?_) (rr := ?_) (σ' := ?_) (bs := ?_) (ks := ?_) (sets := ?_) (pushes := ?_) ttok ent38 [.bor] true ?_ ?_ ?_ ?_ ?_ ?_ ?_ ?_ ?_ (fun K hK => ?_) ?_; rotate_left 9; (focus (first | exact .inl rfl | (refine Gok.mk2 (b := ?_) rfl ?_ ?_; rotate_left 1; (focus rfl); (focus (with_reducible rfl))))); (focus rfl); (focus (first | rfl | (simp only [go_sem, reduceIte, List.length_nil] <;> rfl))); (focus (refine apart_call _ _ ?_ ?_ ?_ <;> first | omega | assumption | decide | simp)); (focus rfl); (focus rfl); (focus (first | rfl | simp only [go_sem])); (focus (first | rfl | (simp only [go_sem, reduceIte, List.length_nil] <;> rfl))); (focus simp); (focus (simp only [go_sem, reduceIte, List.length_nil]; exact hK)))
      | ((first | (refine IL.askg (b := ?_) (d := ?_) ?_ ?_ (fun h => ?_) (fun h => ?_); rotate_left 2; (focus rfl); (focus rfl)) | (refine IL.askp (b := ?_) (d := ?_) ?_ ?_ (fun h => ?_) (fun h => ?_); rotate_left 2; (focus rfl); (focus rfl))); (fail_if_success (focus (simp only [reduceCtorEq] at h))); all_goals first | (simp only [Bool.and_eq_true, Bool.and_eq_false_iff, Bool.or_eq_true, Bool.or_eq_false_iff, Bool.not_eq_true', Bool.not_eq_false', beq_iff_eq, beq_eq_false_iff_ne, ne_eq, bne_iff_ne, bne_eq_false_iff_eq, decide_eq_true_eq, decide_eq_false_iff_not, Decidable.not_not] at h; first | done | (exfalso; omega; done) | skip) | skip)
      | (refine WK.cond (b := ?_) ?_ (fun h => ?_) (fun h => ?_); rotate_left 1; (focus rfl); all_goals first | (simp only [reduceCtorEq] at h; done) | (simp only [Bool.and_eq_true, Bool.and_eq_false_iff, Bool.or_eq_true, Bool.or_eq_false_iff, Bool.not_eq_true', Bool.not_eq_false', beq_iff_eq, beq_eq_false_iff_ne, ne_eq, bne_iff_ne, bne_eq_false_iff_eq, decide_eq_true_eq, decide_eq_false_iff_not, Decidable.not_not] at h; first | done | (exfalso; omega; done) | skip) | skip))
    all_goals try ((first | refine WK.ret ⟨.inr rfl, Fin.of (q' := ?_) (A2 := ?_) (k1 := ?_) (k2 := ?_) ?_ ?_ ?_ ?_ ?_⟩ | refine ⟨.inl rfl, Fin.of (q' := ?_) (A2 := ?_) (k1 := ?_) (k2 := ?_) ?_ ?_ ?_ ?_ ?_⟩ | refine ⟨.inl trivial, Fin.of (q' := ?_) (A2 := ?_) (k1 := ?_) (k2 := ?_) ?_ ?_ ?_ ?_ ?_⟩); rotate_left 4; (focus (first | rfl | (simp only [go_sem, show Try.f27.results.toList = [.tmp 2] from rfl, reduceIte] <;> rfl))); (focus (first | rfl | (simp only [go_sem, reduceIte] <;> rfl))); (focus rfl); rotate_left 1; (focus (first | rfl | skip)); all_goals try with_reducible rfl)
  · have hpos : 0 < l.length := List.length_pos_iff.2 hnil
    refine SCall.of_body' (TT := TT) (fun _ => false) [false] ttok Try.func27 rfl (Nat.le_of_ble_eq_true rfl) rfl fun fx hfx => WK.top ?_
    simp only [impl, imp, argT, List.append_nil, List.map_nil, List.nil_append, show Try.f27.ntmps = 35 from rfl, Nat.zero_add, Nat.reduceAdd]
    repeat' (first
      | refine WK.seq ?_
      | refine WK.reg ?_
      | refine IL.nil ?_
      | refine WK.skip ?_
      | refine WK.block ?_
      | refine WK.exit_here ?_
      | refine WK.exit_out1 (by decide) ?_
      | refine WK.exit_out2 (by decide) (by decide) ?_
      | (with_reducible refine IL.wr ?_ ?_; (focus (first | exact wrap_i64 (by omega) (by omega) | exact wrap_u64 (by omega) (by omega) | exact wrap_u32 (by omega) (by omega) | exact wrap_u16 (by omega) (by omega) | exact wrap_u8 (by omega) (by omega))))
      | (refine IL.stepg (σ' := ?_) ttok (by first | exact .inl rfl | (refine Gok.mk2 (b := ?_) rfl ?_ ?_; rotate_left 1; (focus rfl); (focus (with_reducible rfl)))) (fun K hK => ?_) ?_; rotate_left 1; (focus (simp only [go_sem, reduceIte]; first | exact hK | (and_intros <;> first | exact hK | omega | assumption | rfl | decide))))
      | (refine IL.no (σ' := ?_) (by first | (refine Gno.mkT (b := ?_) rfl ?_ ?_; rotate_left 1; (focus rfl); (focus (with_reducible rfl))) | (refine Gno.mkF (b := ?_) rfl ?_ ?_; rotate_left 1; (focus rfl); (focus (with_reducible rfl))) | exact Gno.mkU rfl rfl) (fun K hK => ?_) ?_; rotate_left 1; (focus (simp only [go_sem, reduceIte]; exact hK)))
      | (refine IL.callS (f := 37) (xs := ?_) (A := ?_) (A' := ?_) (rr := ?_) (σ' := ?_) (bs := ?_) (ks := ?_) (sets := ?_) (pushes := ?_) ttok ent37 [.bor] true ?_ ?_ ?_ ?_ ?_ ?_ ?_ ?_ ?_ (fun K hK => ?_) ?_; rotate_left 9; (focus (first | exact .inl rfl | (refine Gok.mk2 (b := ?_) rfl ?_ ?_; rotate_left 1; (focus rfl); (focus (with_reducible rfl))))); (focus rfl); (focus (first | rfl | (simp only [go_sem, reduceIte] <;> rfl))); (focus (exact refRight_call (_, _, _))); (focus rfl); (focus rfl); (focus (first | rfl | simp only [go_sem])); (focus (first | rfl | (simp only [go_sem, reduceIte] <;> rfl))); (focus simp); (focus (simp only [go_sem, reduceIte]; exact hK)))
      | (refine IL.callS (f := 38) (xs := ?_) (A := ?_) (A' := ?_) (rr := ?_) (σ' := ?_) (bs := ?_) (ks := ?_) (sets := ?_) (pushes := ?_) ttok ent38 [.bor] true ?_ ?_ ?_ ?_ ?_ ?_ ?_ ?_ ?_ (fun K hK => ?_) ?_; rotate_left 9; (focus (first | exact .inl rfl | (refine Gok.mk2 (b := ?_) rfl ?_ ?_; rotate_left 1; (focus rfl); (focus (with_reducible rfl))))); (focus rfl); (focus (first | rfl | (simp only [go_sem, reduceIte] <;> rfl))); (focus (refine apart_call _ _ ?_ ?_ ?_ <;> first | omega | assumption | decide | simp)); (focus rfl); (focus rfl); (focus (first | rfl | simp only [go_sem])); (focus (first | rfl | (simp only [go_sem, reduceIte] <;> rfl))); (focus simp); (focus (simp only [go_sem, reduceIte]; exact hK)))
      | ((first | (refine IL.askg (b := ?_) (d := ?_) ?_ ?_ (fun h => ?_) (fun h => ?_); rotate_left 2; (focus rfl); (focus rfl)) | (refine IL.askp (b := ?_) (d := ?_) ?_ ?_ (fun h => ?_) (fun h => ?_); rotate_left 2; (focus rfl); (focus rfl))); (fail_if_success (focus (simp only [reduceCtorEq] at h))); all_goals first | (simp only [Bool.and_eq_true, Bool.and_eq_false_iff, Bool.or_eq_true, Bool.or_eq_false_iff, Bool.not_eq_true', Bool.not_eq_false', beq_iff_eq, beq_eq_false_iff_ne, ne_eq, bne_iff_ne, bne_eq_false_iff_eq, decide_eq_true_eq, decide_eq_false_iff_not, Decidable.not_not] at h; first | done | (exfalso; omega; done) | skip) | skip)
      | (refine WK.cond (b := ?_) ?_ (fun h => ?_) (fun h => ?_); rotate_left 1; (focus rfl); all_goals first | (simp only [reduceCtorEq] at h; done) | (simp only [Bool.and_eq_true, Bool.and_eq_false_iff, Bool.or_eq_true, Bool.or_eq_false_iff, Bool.not_eq_true', Bool.not_eq_false', beq_iff_eq, beq_eq_false_iff_ne, ne_eq, bne_iff_ne, bne_eq_false_iff_eq, decide_eq_true_eq, decide_eq_false_iff_not, Decidable.not_not] at h; first | done | (exfalso; omega; done) | skip) | skip))
    generalize hG : fit7Go l 0 = G
    have hfit : ¬ G = 0 → fit7 l = G := fun h => by unfold fit7; rw [if_neg hnil, if_neg (by rw [hG]; exact h), hG]
    have hfit0 : G = 0 → (apartI l → fit7 l = 0) ∧ (¬ apartI l → fit7 l = 16) := fun h => by
      unfold fit7; rw [if_neg hnil, if_pos (by rw [hG]; exact h)]
      exact ⟨fun h => if_pos h, fun h => if_neg h⟩
    refine WK.whileS (α := Nat × Int) (fun x => l.length - x.1) (fun x => x.1 ≤ l.length ∧ 0 ≤ x.2 ∧ x.2 ≤ 1024 ∧ fit7Go (l.drop x.1) x.2 = G)
      (fun x => ⟨35, [(0, .tr l.length (encs spC l)), (3, .v (.int .i64 x.2)), (4, .v (.int .i64 (x.1 : Int)))], []⟩) (0, 0) ⟨⟨Nat.zero_le _, by decide, by decide, by simpa using hG⟩, ?_⟩ ?_
    · (refine Weak.cut' rfl rfl ?_; (first | (simp only [go_sem, reduceIte] <;> (try and_intros) <;> first | rfl | omega | grind)))
    · rintro ⟨i, n⟩ ⟨hi, hn0, hn1, hg⟩
      simp only at hi hn0 hn1 hg ⊢
      rcases Nat.eq_or_lt_of_le hi with rfl | hi
      · rw [List.drop_length, fit7Go] at hg
        have hok := fit7Go_ok l 0 (by decide) (by rw [hG]; exact hg.symm)
        obtain ⟨w1, w2⟩ := hfit0 hg.symm
        have hokr := hok.1
        repeat' (first
          | refine WK.seq ?_
          | refine WK.reg ?_
          | refine IL.nil ?_
          | refine WK.skip ?_
          | refine WK.block ?_
          | refine WK.exit_here ?_
          | refine WK.exit_out1 (by decide) ?_
          | refine WK.exit_out2 (by decide) (by decide) ?_
          | (with_reducible refine IL.wr ?_ ?_; (focus (first | exact wrap_i64 (by omega) (by omega) | exact wrap_u64 (by omega) (by omega) | exact wrap_u32 (by omega) (by omega) | exact wrap_u16 (by omega) (by omega) | exact wrap_u8 (by omega) (by omega))))
          | (refine IL.stepg (σ' := ?_) ttok (by first | exact .inl rfl | (refine Gok.mk2 (b := ?_) rfl ?_ ?_; rotate_left 1; (focus rfl); (focus (with_reducible rfl)))) (fun K hK => ?_) ?_; rotate_left 1; (focus (simp only [go_sem, reduceIte]; first | exact hK | (and_intros <;> first | exact hK | omega | assumption | rfl | decide))))
          | (refine IL.no (σ' := ?_) (by first | (refine Gno.mkT (b := ?_) rfl ?_ ?_; rotate_left 1; (focus rfl); (focus (with_reducible rfl))) | (refine Gno.mkF (b := ?_) rfl ?_ ?_; rotate_left 1; (focus rfl); (focus (with_reducible rfl))) | exact Gno.mkU rfl rfl) (fun K hK => ?_) ?_; rotate_left 1; (focus (simp only [go_sem, reduceIte]; exact hK)))
          | (refine IL.callS (f := 37) (xs := ?_) (A := ?_) (A' := ?_) (rr := ?_) (σ' := ?_) (bs := ?_) (ks := ?_) (sets := ?_) (pushes := ?_) ttok ent37 [.bor] true ?_ ?_ ?_ ?_ ?_ ?_ ?_ ?_ ?_ (fun K hK => ?_) ?_; rotate_left 9; (focus (first | exact .inl rfl | (refine Gok.mk2 (b := ?_) rfl ?_ ?_; rotate_left 1; (focus rfl); (focus (with_reducible rfl))))); (focus rfl); (focus (first | rfl | (simp only [go_sem, reduceIte] <;> rfl))); (focus (exact refRight_call (_, _, _))); (focus rfl); (focus rfl); (focus (first | rfl | simp only [go_sem])); (focus (first | rfl | (simp only [go_sem, reduceIte] <;> rfl))); (focus simp); (focus (simp only [go_sem, reduceIte]; exact hK)))
          | (refine IL.callS (f := 38) (xs := ?_) (A := ?_) (A' := ?_) (rr := ?_) (σ' := ?_) (bs := ?_) (ks := ?_) (sets := ?_) (pushes := ?_) ttok ent38 [.bor] true ?_ ?_ ?_ ?_ ?_ ?_ ?_ ?_ ?_ (fun K hK => ?_) ?_; rotate_left 9; (focus (first | exact .inl rfl | (refine Gok.mk2 (b := ?_) rfl ?_ ?_; rotate_left 1; (focus rfl); (focus (with_reducible rfl))))); (focus rfl); (focus (first | rfl | (simp only [go_sem, reduceIte] <;> rfl))); (focus (refine apart_call _ _ ?_ ?_ ?_ <;> first | omega | assumption | decide | simp)); (focus rfl); (focus rfl); (focus (first | rfl | simp only [go_sem])); (focus (first | rfl | (simp only [go_sem, reduceIte] <;> rfl))); (focus simp); (focus (simp only [go_sem, reduceIte]; exact hK)))
          | ((first | (refine IL.askg (b := ?_) (d := ?_) ?_ ?_ (fun h => ?_) (fun h => ?_); rotate_left 2; (focus rfl); (focus rfl)) | (refine IL.askp (b := ?_) (d := ?_) ?_ ?_ (fun h => ?_) (fun h => ?_); rotate_left 2; (focus rfl); (focus rfl))); (fail_if_success (focus (simp only [reduceCtorEq] at h))); all_goals first | (simp only [Bool.and_eq_true, Bool.and_eq_false_iff, Bool.or_eq_true, Bool.or_eq_false_iff, Bool.not_eq_true', Bool.not_eq_false', beq_iff_eq, beq_eq_false_iff_ne, ne_eq, bne_iff_ne, bne_eq_false_iff_eq, decide_eq_true_eq, decide_eq_false_iff_not, Decidable.not_not] at h; first | done | (exfalso; omega; done) | skip) | skip)
          | (refine WK.cond (b := ?_) ?_ (fun h => ?_) (fun h => ?_); rotate_left 1; (focus rfl); all_goals first | (simp only [reduceCtorEq] at h; done) | (simp only [Bool.and_eq_true, Bool.and_eq_false_iff, Bool.or_eq_true, Bool.or_eq_false_iff, Bool.not_eq_true', Bool.not_eq_false', beq_iff_eq, beq_eq_false_iff_ne, ne_eq, bne_iff_ne, bne_eq_false_iff_eq, decide_eq_true_eq, decide_eq_false_iff_not, Decidable.not_not] at h; first | done | (exfalso; omega; done) | skip) | skip))
        all_goals try ((first | refine WK.ret ⟨.inr rfl, Fin.of (q' := ?_) (A2 := ?_) (k1 := ?_) (k2 := ?_) ?_ ?_ ?_ ?_ ?_⟩ | refine ⟨.inl rfl, Fin.of (q' := ?_) (A2 := ?_) (k1 := ?_) (k2 := ?_) ?_ ?_ ?_ ?_ ?_⟩ | refine ⟨.inl trivial, Fin.of (q' := ?_) (A2 := ?_) (k1 := ?_) (k2 := ?_) ?_ ?_ ?_ ?_ ?_⟩); rotate_left 4; (focus (first | rfl | (simp only [go_sem, show Try.f27.results.toList = [.tmp 2] from rfl, reduceIte] <;> rfl))); (focus (first | rfl | (simp only [go_sem, reduceIte] <;> rfl))); (focus rfl); rotate_left 1; (focus (first | rfl | skip)); all_goals try with_reducible rfl)
        all_goals first | rw [w1 (by assumption)] | rw [w2 (by assumption)]
      · have hx : l[i]? = some l[i] := List.getElem?_eq_getElem hi
        rw [List.drop_eq_getElem_cons hi, fit7Go] at hg
        generalize l[i] = s at *
        obtain ⟨r, m, c⟩ := s
        have hle : i * 3 + 3 ≤ l.length * 3 := by omega
        have hat : ((encs spC l).drop (i * 3)).take 3 = [.v (.int .u16 r), .v (.int .u32 m), .v (.int .i64 c)] := encs_at spC_length hx
        have hg2 : (encs spC l)[i * 3 + 2]? = some (.v (.int .i64 c)) := encs_get spC_length hx (j := 2) (by decide)
        have hne : encs spC l ≠ [] := encs_ne spC_length (by decide) hx
        by_cases hri : rightI (r, m, c)
        · rw [if_pos hri] at hg
          simp only at hg
          have hri' := hri
          unfold rightI at hri'
          simp only at hri'
          have hd : decide (rightI (r, m, c)) = true := decide_eq_true hri
          by_cases hbig : 1024 < n + c
          · rw [if_pos hbig] at hg
            subst hg
            rw [hfit (by decide)]
            repeat' (first
              | refine WK.seq ?_
              | refine WK.reg ?_
              | refine IL.nil ?_
              | refine WK.skip ?_
              | refine WK.block ?_
              | refine WK.exit_here ?_
              | refine WK.exit_out1 (by decide) ?_
              | refine WK.exit_out2 (by decide) (by decide) ?_
              | (with_reducible refine IL.wr ?_ ?_; (focus (first | exact wrap_i64 (by omega) (by omega) | exact wrap_u64 (by omega) (by omega) | exact wrap_u32 (by omega) (by omega) | exact wrap_u16 (by omega) (by omega) | exact wrap_u8 (by omega) (by omega))))
              | (refine IL.stepg (σ' := ?_) ttok (by first | exact .inl rfl | (refine Gok.mk2 (b := ?_) rfl ?_ ?_; rotate_left 1; (focus rfl); (focus (with_reducible rfl)))) (fun K hK => ?_) ?_; rotate_left 1; (focus (simp only [go_sem, reduceIte, hat, hle, hg2, hd]; first | exact hK | (and_intros <;> first | exact hK | omega | assumption | rfl | decide))))
              | (refine IL.no (σ' := ?_) (by first | (refine Gno.mkT (b := ?_) rfl ?_ ?_; rotate_left 1; (focus rfl); (focus (with_reducible rfl))) | (refine Gno.mkF (b := ?_) rfl ?_ ?_; rotate_left 1; (focus rfl); (focus (with_reducible rfl))) | exact Gno.mkU rfl rfl) (fun K hK => ?_) ?_; rotate_left 1; (focus (simp only [go_sem, reduceIte]; exact hK)))
              | (refine IL.callS (f := 37) (xs := ?_) (A := ?_) (A' := ?_) (rr := ?_) (σ' := ?_) (bs := ?_) (ks := ?_) (sets := ?_) (pushes := ?_) ttok ent37 [.bor] true ?_ ?_ ?_ ?_ ?_ ?_ ?_ ?_ ?_ (fun K hK => ?_) ?_; rotate_left 9; (focus (first | exact .inl rfl | (refine Gok.mk2 (b := ?_) rfl ?_ ?_; rotate_left 1; (focus rfl); (focus (with_reducible rfl))))); (focus rfl); (focus (first | rfl | (simp only [go_sem, reduceIte, hat, hle, hg2, hd] <;> rfl))); (focus (exact refRight_call (_, _, _))); (focus rfl); (focus rfl); (focus (first | rfl | simp only [go_sem])); (focus (first | rfl | (simp only [go_sem, reduceIte, hat, hle, hg2, hd] <;> rfl))); (focus simp); (focus (simp only [go_sem, reduceIte, hat, hle, hg2, hd]; exact hK)))
              | (refine IL.callS (f := 38) (xs := ?_) (A := ?_) (A' := ?_) (rr := ?_) (σ' := ?_) (bs := ?_) (ks := ?_) (sets := ?_) (pushes := ?_) ttok ent38 [.bor] true ?_ ?_ ?_ ?_ ?_ ?_ ?_ ?_ ?_ (fun K hK => ?_) ?_; rotate_left 9; (focus (first | exact .inl rfl | (refine Gok.mk2 (b := ?_) rfl ?_ ?_; rotate_left 1; (focus rfl); (focus (with_reducible rfl))))); (focus rfl); (focus (first | rfl | (simp only [go_sem, reduceIte, hat, hle, hg2, hd] <;> rfl))); (focus (refine apart_call _ _ ?_ ?_ ?_ <;> first | omega | assumption | decide | simp)); (focus rfl); (focus rfl); (focus (first | rfl | simp only [go_sem])); (focus (first | rfl | (simp only [go_sem, reduceIte, hat, hle, hg2, hd] <;> rfl))); (focus simp); (focus (simp only [go_sem, reduceIte, hat, hle, hg2, hd]; exact hK)))
              | ((first | (refine IL.askg (b := ?_) (d := ?_) ?_ ?_ (fun h => ?_) (fun h => ?_); rotate_left 2; (focus rfl); (focus rfl)) | (refine IL.askp (b := ?_) (d := ?_) ?_ ?_ (fun h => ?_) (fun h => ?_); rotate_left 2; (focus rfl); (focus rfl))); (fail_if_success (focus (simp only [reduceCtorEq] at h))); all_goals first | (simp only [Bool.and_eq_true, Bool.and_eq_false_iff, Bool.or_eq_true, Bool.or_eq_false_iff, Bool.not_eq_true', Bool.not_eq_false', beq_iff_eq, beq_eq_false_iff_ne, ne_eq, bne_iff_ne, bne_eq_false_iff_eq, decide_eq_true_eq, decide_eq_false_iff_not, Decidable.not_not] at h; first | done | (exfalso; omega; done) | skip) | skip)
              | (refine WK.cond (b := ?_) ?_ (fun h => ?_) (fun h => ?_); rotate_left 1; (focus rfl); all_goals first | (simp only [reduceCtorEq] at h; done) | (simp only [Bool.and_eq_true, Bool.and_eq_false_iff, Bool.or_eq_true, Bool.or_eq_false_iff, Bool.not_eq_true', Bool.not_eq_false', beq_iff_eq, beq_eq_false_iff_ne, ne_eq, bne_iff_ne, bne_eq_false_iff_eq, decide_eq_true_eq, decide_eq_false_iff_not, Decidable.not_not] at h; first | done | (exfalso; omega; done) | skip) | skip))
            all_goals try ((first | refine WK.ret ⟨.inr rfl, Fin.of (q' := ?_) (A2 := ?_) (k1 := ?_) (k2 := ?_) ?_ ?_ ?_ ?_ ?_⟩ | refine ⟨.inl rfl, Fin.of (q' := ?_) (A2 := ?_) (k1 := ?_) (k2 := ?_) ?_ ?_ ?_ ?_ ?_⟩ | refine ⟨.inl trivial, Fin.of (q' := ?_) (A2 := ?_) (k1 := ?_) (k2 := ?_) ?_ ?_ ?_ ?_ ?_⟩); rotate_left 4; (focus (first | rfl | (simp only [go_sem, show Try.f27.results.toList = [.tmp 2] from rfl, reduceIte] <;> rfl))); (focus (first | rfl | (simp only [go_sem, reduceIte] <;> rfl))); (focus rfl); rotate_left 1; (focus (first | rfl | skip)); all_goals try with_reducible rfl)
          · rw [if_neg hbig] at hg
            repeat' (first
              | refine WK.seq ?_
              | refine WK.reg ?_
              | refine IL.nil ?_
              | refine WK.skip ?_
              | refine WK.block ?_
              | refine WK.exit_here ?_
              | refine WK.exit_out1 (by decide) ?_
              | refine WK.exit_out2 (by decide) (by decide) ?_
              | (with_reducible refine IL.wr ?_ ?_; (focus (first | exact wrap_i64 (by omega) (by omega) | exact wrap_u64 (by omega) (by omega) | exact wrap_u32 (by omega) (by omega) | exact wrap_u16 (by omega) (by omega) | exact wrap_u8 (by omega) (by omega))))
              | (refine IL.stepg (σ' := ?_) ttok (by first | exact .inl rfl | (refine Gok.mk2 (b := ?_) rfl ?_ ?_; rotate_left 1; (focus rfl); (focus (with_reducible rfl)))) (fun K hK => ?_) ?_; rotate_left 1; (focus (simp only [go_sem, reduceIte, hat, hle, hg2, hd]; first | exact hK | (and_intros <;> first | exact hK | omega | assumption | rfl | decide))))
              | (refine IL.no (σ' := ?_) (by first | (refine Gno.mkT (b := ?_) rfl ?_ ?_; rotate_left 1; (focus rfl); (focus (with_reducible rfl))) | (refine Gno.mkF (b := ?_) rfl ?_ ?_; rotate_left 1; (focus rfl); (focus (with_reducible rfl))) | exact Gno.mkU rfl rfl) (fun K hK => ?_) ?_; rotate_left 1; (focus (simp only [go_sem, reduceIte]; exact hK)))
              | (refine IL.callS (f := 37) (xs := ?_) (A := ?_) (A' := ?_) (rr := ?_) (σ' := ?_) (bs := ?_) (ks := ?_) (sets := ?_) (pushes := ?_) ttok ent37 [.bor] true ?_ ?_ ?_ ?_ ?_ ?_ ?_ ?_ ?_ (fun K hK => ?_) ?_; rotate_left 9; (focus (first | exact .inl rfl | (refine Gok.mk2 (b := ?_) rfl ?_ ?_; rotate_left 1; (focus rfl); (focus (with_reducible rfl))))); (focus rfl); (focus (first | rfl | (simp only [go_sem, reduceIte, hat, hle, hg2, hd] <;> rfl))); (focus (exact refRight_call (_, _, _))); (focus rfl); (focus rfl); (focus (first | rfl | simp only [go_sem])); (focus (first | rfl | (simp only [go_sem, reduceIte, hat, hle, hg2, hd] <;> rfl))); (focus simp); (focus (simp only [go_sem, reduceIte, hat, hle, hg2, hd]; exact hK)))
              | (refine IL.callS (f := 38) (xs := ?_) (A := ?_) (A' := ?_) (rr := ?_) (σ' := ?_) (bs := ?_) (ks := ?_) (sets := ?_) (pushes := ?_) ttok ent38 [.bor] true ?_ ?_ ?_ ?_ ?_ ?_ ?_ ?_ ?_ (fun K hK => ?_) ?_; rotate_left 9; (focus (first | exact .inl rfl | (refine Gok.mk2 (b := ?_) rfl ?_ ?_; rotate_left 1; (focus rfl); (focus (with_reducible rfl))))); (focus rfl); (focus (first | rfl | (simp only [go_sem, reduceIte, hat, hle, hg2, hd] <;> rfl))); (focus (refine apart_call _ _ ?_ ?_ ?_ <;> first | omega | assumption | decide | simp)); (focus rfl); (focus rfl); (focus (first | rfl | simp only [go_sem])); (focus (first | rfl | (simp only [go_sem, reduceIte, hat, hle, hg2, hd] <;> rfl))); (focus simp); (focus (simp only [go_sem, reduceIte, hat, hle, hg2, hd]; exact hK)))
              | ((first | (refine IL.askg (b := ?_) (d := ?_) ?_ ?_ (fun h => ?_) (fun h => ?_); rotate_left 2; (focus rfl); (focus rfl)) | (refine IL.askp (b := ?_) (d := ?_) ?_ ?_ (fun h => ?_) (fun h => ?_); rotate_left 2; (focus rfl); (focus rfl))); (fail_if_success (focus (simp only [reduceCtorEq] at h))); all_goals first | (simp only [Bool.and_eq_true, Bool.and_eq_false_iff, Bool.or_eq_true, Bool.or_eq_false_iff, Bool.not_eq_true', Bool.not_eq_false', beq_iff_eq, beq_eq_false_iff_ne, ne_eq, bne_iff_ne, bne_eq_false_iff_eq, decide_eq_true_eq, decide_eq_false_iff_not, Decidable.not_not] at h; first | done | (exfalso; omega; done) | skip) | skip)
              | (refine WK.cond (b := ?_) ?_ (fun h => ?_) (fun h => ?_); rotate_left 1; (focus rfl); all_goals first | (simp only [reduceCtorEq] at h; done) | (simp only [Bool.and_eq_true, Bool.and_eq_false_iff, Bool.or_eq_true, Bool.or_eq_false_iff, Bool.not_eq_true', Bool.not_eq_false', beq_iff_eq, beq_eq_false_iff_ne, ne_eq, bne_iff_ne, bne_eq_false_iff_eq, decide_eq_true_eq, decide_eq_false_iff_not, Decidable.not_not] at h; first | done | (exfalso; omega; done) | skip) | skip))
            refine ⟨(i + 1, n + c), by simp only; omega, ⟨by simp only; omega, by simp only; omega, by simp only; omega, hg⟩, ?_⟩
            (refine Weak.cut' rfl rfl ?_; (first | (simp only [go_sem, reduceIte] <;> (try and_intros) <;> first | rfl | omega | grind)))
        · rw [if_neg hri] at hg
          subst hg
          rw [hfit (by decide)]
          have hd : decide (rightI (r, m, c)) = false := decide_eq_false hri
          repeat' (first
            | refine WK.seq ?_
            | refine WK.reg ?_
            | refine IL.nil ?_
            | refine WK.skip ?_
            | refine WK.block ?_
            | refine WK.exit_here ?_
            | refine WK.exit_out1 (by decide) ?_
            | refine WK.exit_out2 (by decide) (by decide) ?_
            | (with_reducible refine IL.wr ?_ ?_; (focus (first | exact wrap_i64 (by omega) (by omega) | exact wrap_u64 (by omega) (by omega) | exact wrap_u32 (by omega) (by omega) | exact wrap_u16 (by omega) (by omega) | exact wrap_u8 (by omega) (by omega))))
            | (refine IL.stepg (σ' := ?_) ttok (by first | exact .inl rfl | (refine Gok.mk2 (b := ?_) rfl ?_ ?_; rotate_left 1; (focus rfl); (focus (with_reducible rfl)))) (fun K hK => ?_) ?_; rotate_left 1; (focus (simp only [go_sem, reduceIte, hat, hle, hg2, hd]; first | exact hK | (and_intros <;> first | exact hK | omega | assumption | rfl | decide))))
            | (refine IL.no (σ' := ?_) (by first | (refine Gno.mkT (b := ?_) rfl ?_ ?_; rotate_left 1; (focus rfl); (focus (with_reducible rfl))) | (refine Gno.mkF (b := ?_) rfl ?_ ?_; rotate_left 1; (focus rfl); (focus (with_reducible rfl))) | exact Gno.mkU rfl rfl) (fun K hK => ?_) ?_; rotate_left 1; (focus (simp only [go_sem, reduceIte]; exact hK)))
            | (refine IL.callS (f := 37) (xs := ?_) (A := ?_) (A' := ?_) (rr := ?_) (σ' := ?_) (bs := ?_) (ks := ?_) (sets := ?_) (pushes := ?_) ttok ent37 [.bor] true ?_ ?_ ?_ ?_ ?_ ?_ ?_ ?_ ?_ (fun K hK => ?_) ?_; rotate_left 9; (focus (first | exact .inl rfl | (refine Gok.mk2 (b := ?_) rfl ?_ ?_; rotate_left 1; (focus rfl); (focus (with_reducible rfl))))); (focus rfl); (focus (first | rfl | (simp only [go_sem, reduceIte, hat, hle, hg2, hd] <;> rfl))); (focus (exact refRight_call (_, _, _))); (focus rfl); (focus rfl); (focus (first | rfl | simp only [go_sem])); (focus (first | rfl | (simp only [go_sem, reduceIte, hat, hle, hg2, hd] <;> rfl))); (focus simp); (focus (simp only [go_sem, reduceIte, hat, hle, hg2, hd]; exact hK)))
            | (refine IL.callS (f := 38) (xs := ?_) (A := ?_) (A' := ?_) (rr := ?_) (σ' := ?_) (bs := ?_) (ks := ?_) (sets := ?_) (pushes := ?_) ttok ent38 [.bor] true ?_ ?_ ?_ ?_ ?_ ?_ ?_ ?_ ?_ (fun K hK => ?_) ?_; rotate_left 9; (focus (first | exact .inl rfl | (refine Gok.mk2 (b := ?_) rfl ?_ ?_; rotate_left 1; (focus rfl); (focus (with_reducible rfl))))); (focus rfl); (focus (first | rfl | (simp only [go_sem, reduceIte, hat, hle, hg2, hd] <;> rfl))); (focus (refine apart_call _ _ ?_ ?_ ?_ <;> first | omega | assumption | decide | simp)); (focus rfl); (focus rfl); (focus (first | rfl | simp only [go_sem])); (focus (first | rfl | (simp only [go_sem, reduceIte, hat, hle, hg2, hd] <;> rfl))); (focus simp); (focus (simp only [go_sem, reduceIte, hat, hle, hg2, hd]; exact hK)))
            | ((first | (refine IL.askg (b := ?_) (d := ?_) ?_ ?_ (fun h => ?_) (fun h => ?_); rotate_left 2; (focus rfl); (focus rfl)) | (refine IL.askp (b := ?_) (d := ?_) ?_ ?_ (fun h => ?_) (fun h => ?_); rotate_left 2; (focus rfl); (focus rfl))); (fail_if_success (focus (simp only [reduceCtorEq] at h))); all_goals first | (simp only [Bool.and_eq_true, Bool.and_eq_false_iff, Bool.or_eq_true, Bool.or_eq_false_iff, Bool.not_eq_true', Bool.not_eq_false', beq_iff_eq, beq_eq_false_iff_ne, ne_eq, bne_iff_ne, bne_eq_false_iff_eq, decide_eq_true_eq, decide_eq_false_iff_not, Decidable.not_not] at h; first | done | (exfalso; omega; done) | skip) | skip)
            | (refine WK.cond (b := ?_) ?_ (fun h => ?_) (fun h => ?_); rotate_left 1; (focus rfl); all_goals first | (simp only [reduceCtorEq] at h; done) | (simp only [Bool.and_eq_true, Bool.and_eq_false_iff, Bool.or_eq_true, Bool.or_eq_false_iff, Bool.not_eq_true', Bool.not_eq_false', beq_iff_eq, beq_eq_false_iff_ne, ne_eq, bne_iff_ne, bne_eq_false_iff_eq, decide_eq_true_eq, decide_eq_false_iff_not, Decidable.not_not] at h; first | done | (exfalso; omega; done) | skip) | skip))
          all_goals try ((first | refine WK.ret ⟨.inr rfl, Fin.of (q' := ?_) (A2 := ?_) (k1 := ?_) (k2 := ?_) ?_ ?_ ?_ ?_ ?_⟩ | refine ⟨.inl rfl, Fin.of (q' := ?_) (A2 := ?_) (k1 := ?_) (k2 := ?_) ?_ ?_ ?_ ?_ ?_⟩ | refine ⟨.inl trivial, Fin.of (q' := ?_) (A2 := ?_) (k1 := ?_) (k2 := ?_) ?_ ?_ ?_ ?_ ?_⟩); rotate_left 4; (focus (first | rfl | (simp only [go_sem, show Try.f27.results.toList = [.tmp 2] from rfl, reduceIte] <;> rfl))); (focus (first | rfl | (simp only [go_sem, reduceIte] <;> rfl))); (focus rfl); rotate_left 1; (focus (first | rfl | skip)); all_goals try with_reducible rfl)
def idOf (s : Sp) (k : Nat) : Nm := (s.1, s.2.1 + k)
def idsS (s : Sp) (c : Nat) : List Nm := (List.range c).map (idOf s)
def idsL (l : List Sp) : List Nm := l.flatMap fun s => idsS s s.2.2.toNat
theorem idsS_succ (s : Sp) (k : Nat) : idsS s (k + 1) = idsS s k ++ [idOf s k] := by simp [idsS, List.range_succ]
theorem idsS_len (s : Sp) (k : Nat) : (idsS s k).length = k := by simp [idsS]
theorem idsL_len : ∀ (l : List Sp), (∀ s ∈ l, rightI s) → ((idsL l).length : Int) = tot l
  | [], _ => rfl
  | s :: r, h => by
    have ih := idsL_len r fun x hx => h x (by simp [hx])
    have hs := h s (by simp)
    unfold rightI at hs
    simp only [idsL, List.flatMap_cons, List.length_append, idsS_len, tot, List.map_cons, List.sum_cons] at ih ⊢
    omega
theorem idsL_take (l : List Sp) (i : Nat) (s : Sp) (hx : l[i]? = some s) : idsL (l.take (i + 1)) = idsL (l.take i) ++ idsS s s.2.2.toNat := by
  rw [List.take_add_one, hx]; simp [idsL]
theorem idsL_take_le (l : List Sp) (i : Nat) : (idsL (l.take i)).length ≤ (idsL l).length := by
  have h : idsL l = idsL (l.take i) ++ idsL (l.drop i) := by
    unfold idsL; rw [← List.flatMap_append, List.take_append_drop]
  rw [h, List.length_append]; omega
theorem ids_call (l : List Sp) (nn : Nat) (hnn : nn = l.length) (hl : l.length ≤ 100000) (hr : ∀ s ∈ l, rightI s) (ht : tot l ≤ 100000) : SCall Try.prog 39 [.tr nn (encs spC l)] (.own 34 (idsL l).length true (encs nmC (idsL l))) [.tr nn (encs spC l)] := by
  subst hnn
  have hlen := idsL_len l hr
  refine SCall.of_body' (TT := TT) (fun _ => false) [false] ttok Try.func39 rfl (Nat.le_of_ble_eq_true rfl) rfl fun fx hfx => WK.top ?_
  simp only [impl, imp, argT, List.append_nil, List.map_nil, List.nil_append, show Try.f39.ntmps = 41 from rfl, Nat.zero_add, Nat.reduceAdd]
  repeat' (first
    | refine WK.seq ?_
    | refine WK.reg ?_
    | refine IL.nil ?_
    | refine WK.skip ?_
    | refine WK.block ?_
    | refine WK.exit_here ?_
    | refine WK.exit_out1 (by decide) ?_
    | refine WK.exit_out2 (by decide) (by decide) ?_
    | refine WK.drawnS (id := 8) mixed [0] [17, 18] [0, 0, 0, 0, 0, 0, 0, 0, 0, 0, 0, 0, 0, 0, 0, 0, 0, 0, 1, 2] [1, 0, 0, 0, 0, 0, 0, 0, 0, 0, 0, 0, 0, 0, 0, 0, 0, 0, 1, 2] (by decide +kernel) ?_
    | refine DW.nil ?_
    | (with_reducible refine IL.wr ?_ ?_; (focus (first | exact wrap_i64 (by omega) (by omega) | exact wrap_u64 (by omega) (by omega) | exact wrap_u32 (by omega) (by omega) | exact wrap_u16 (by omega) (by omega) | exact wrap_u8 (by omega) (by omega))))
    | (with_reducible refine DW.wr ?_ ?_; (focus (first | exact wrap_i64 (by omega) (by omega) | exact wrap_u64 (by omega) (by omega) | exact wrap_u32 (by omega) (by omega) | exact wrap_u16 (by omega) (by omega) | exact wrap_u8 (by omega) (by omega))))
    | (refine IL.stepg (σ' := ?_) ttok (by first | exact .inl rfl | (refine Gok.mk2 (b := ?_) rfl ?_ ?_; rotate_left 1; (focus rfl); (focus (with_reducible rfl)))) (fun K hK => ?_) ?_; rotate_left 1; (focus (simp only [go_sem, reduceIte]; first | exact hK | (and_intros <;> first | exact hK | omega | assumption | rfl | decide))))
    | (refine IL.no (σ' := ?_) (by first | (refine Gno.mkT (b := ?_) rfl ?_ ?_; rotate_left 1; (focus rfl); (focus (with_reducible rfl))) | (refine Gno.mkF (b := ?_) rfl ?_ ?_; rotate_left 1; (focus rfl); (focus (with_reducible rfl))) | exact Gno.mkU rfl rfl) (fun K hK => ?_) ?_; rotate_left 1; (focus (simp only [go_sem, reduceIte]; exact hK)))
    | (refine DW.rd (L := ?_) (T' := ?_) ttok rfl rfl (by decide) ?_ ?_ (fun K hK => ?_) ?_ ?_; rotate_left 2; (focus rfl); (focus (first | exact .inl rfl | (refine Gok.mk2 (b := ?_) rfl ?_ ?_; rotate_left 1; (focus rfl); (focus (with_reducible rfl))))); (focus (simp only [go_sem, reduceIte]; first | exact hK | (and_intros <;> first | exact hK | omega | assumption | rfl | decide))); (focus (first | exact ⟨_, rfl⟩ | rfl)))
    | (refine DW.rdm (L := ?_) (T' := ?_) ttok rfl rfl ?_ ?_ (fun K hK => ?_) ?_ ?_; rotate_left 2; (focus rfl); (focus (first | exact .inl rfl | (refine Gok.mk2 (b := ?_) rfl ?_ ?_; rotate_left 1; (focus rfl); (focus (with_reducible rfl))))); (focus (simp only [go_sem, reduceIte]; first | exact hK | (and_intros <;> first | exact hK | omega | assumption | rfl | decide))); (focus (first | exact ⟨_, rfl⟩ | rfl)))
    | (refine DW.bl (L' := ?_) (T' := ?_) ttok rfl ?_ (fun K hK => ?_) ?_ ?_ ?_; rotate_left 2; (focus (first | exact .inl rfl | (refine Gok.mk2 (b := ?_) rfl ?_ ?_; rotate_left 1; (focus rfl); (focus (with_reducible rfl))))); (focus (simp only [go_sem, reduceIte]; first | exact hK | (and_intros <;> first | exact hK | omega | assumption | rfl | decide))); (focus (first | exact ⟨_, rfl⟩ | rfl)); (focus (first | exact .inl rfl | exact .inr (LEX.refl _ _) | exact .inr (LE.app _ _).lex | exact .inr (LEX.of (by simp only [go_sem, List.contains_cons, List.contains_nil, Nat.reduceBEq, Bool.or_false, Bool.false_or, Nat.reduceAdd, true_or, false_or, true_and]; first | done | trivial | (and_intros <;> first | exact ⟨_, rfl⟩ | trivial))))))
    | (refine DW.no (L := ?_) (T' := ?_) ?_ rfl ?_ (fun K hK => ?_) ?_ ?_; rotate_left 2; (focus rfl); (focus (first | (refine Gno.mkT (b := ?_) rfl ?_ ?_; rotate_left 1; (focus rfl); (focus (with_reducible rfl))) | (refine Gno.mkF (b := ?_) rfl ?_ ?_; rotate_left 1; (focus rfl); (focus (with_reducible rfl))) | exact Gno.mkU rfl rfl)); (focus (simp only [go_sem, reduceIte]; exact hK)); (focus (first | exact ⟨_, rfl⟩ | rfl)))
    | (refine DW.nob (T' := ?_) rfl ?_ (fun K hK => ?_) ?_ ?_; rotate_left 1; (focus (first | (refine Gno.mkT (b := ?_) rfl ?_ ?_; rotate_left 1; (focus rfl); (focus (with_reducible rfl))) | (refine Gno.mkF (b := ?_) rfl ?_ ?_; rotate_left 1; (focus rfl); (focus (with_reducible rfl))) | exact Gno.mkU rfl rfl)); (focus (simp only [go_sem, reduceIte]; exact hK)); (focus (first | exact ⟨_, rfl⟩ | rfl)))
    | ((first | (refine IL.askg (b := ?_) (d := ?_) ?_ ?_ (fun h => ?_) (fun h => ?_); rotate_left 2; (focus rfl); (focus rfl)) | (refine DW.askg (b := ?_) (d := ?_) ?_ ?_ (fun h => ?_) (fun h => ?_); rotate_left 2; (focus rfl); (focus rfl)) | (refine IL.askp (b := ?_) (d := ?_) ?_ ?_ (fun h => ?_) (fun h => ?_); rotate_left 2; (focus rfl); (focus rfl)) | (refine DW.askp (b := ?_) (d := ?_) ?_ ?_ (fun h => ?_) (fun h => ?_); rotate_left 2; (focus rfl); (focus rfl))); (fail_if_success (focus (simp only [reduceCtorEq] at h))); all_goals first | (simp only [Bool.and_eq_true, Bool.and_eq_false_iff, Bool.or_eq_true, Bool.or_eq_false_iff, Bool.not_eq_true', Bool.not_eq_false', beq_iff_eq, beq_eq_false_iff_ne, ne_eq, bne_iff_ne, bne_eq_false_iff_eq, decide_eq_true_eq, decide_eq_false_iff_not, Decidable.not_not] at h; first | done | (exfalso; omega; done) | skip) | skip)
    | (refine WK.cond (b := ?_) ?_ (fun h => ?_) (fun h => ?_); rotate_left 1; (focus rfl); all_goals first | (simp only [reduceCtorEq] at h; done) | (simp only [Bool.and_eq_true, Bool.and_eq_false_iff, Bool.or_eq_true, Bool.or_eq_false_iff, Bool.not_eq_true', Bool.not_eq_false', beq_iff_eq, beq_eq_false_iff_ne, ne_eq, bne_iff_ne, bne_eq_false_iff_eq, decide_eq_true_eq, decide_eq_false_iff_not, Decidable.not_not] at h; first | done | (exfalso; omega; done) | skip) | skip))
  refine WK.forS l.length (fun i => True) (fun i => ⟨41, [(0, .tr l.length (encs spC l)), (3, .sl 0 0 0 (idsL (l.take i)).length), (4, .v (.int .i64 i))], [some ⟨true, 34, (idsL (l.take i)).length, true, encs nmC (idsL (l.take i)), 0, false⟩]⟩) ⟨trivial, ?_⟩ (fun i hi ho => ?_) (fun ho => ?_)
  · have e0 : idsL (l.take 0) = [] := rfl
    rw [e0]
    (refine Weak.renS [1] hfx rfl ?_ ?_ rfl <;> (simp only [go_sem, reduceIte, exists_eq_left', exists_eq_left, Blk.mk.injEq] <;> (try and_intros) <;> first | rfl | omega))
  · have hx : l[i]? = some l[i] := List.getElem?_eq_getElem hi
    have hri := hr _ (List.getElem_mem hi)
    have htk := idsL_take l i _ hx
    have hlk := idsL_take_le l i
    generalize l[i] = s at *
    obtain ⟨r, n, c⟩ := s
    unfold rightI at hri
    simp only at hri htk
    have hle : i * 3 + 3 ≤ l.length * 3 := by omega
    have hat : ((encs spC l).drop (i * 3)).take 3 = [.v (.int .u16 r), .v (.int .u32 n), .v (.int .i64 c)] := encs_at spC_length hx
    have hg0 : (encs spC l)[i * 3]? = some (.v (.int .u16 r)) := encs_get spC_length hx (j := 0) (by decide)
    have hg1 : (encs spC l)[i * 3 + 1]? = some (.v (.int .u32 n)) := encs_get spC_length hx (j := 1) (by decide)
    have hg2 : (encs spC l)[i * 3 + 2]? = some (.v (.int .i64 c)) := encs_get spC_length hx (j := 2) (by decide)
    have hne : encs spC l ≠ [] := encs_ne spC_length (by decide) hx
    have hce : ((c.toNat : Nat) : Int) = c := by omega
    generalize c.toNat = cn at *
    subst hce
    rw [htk]
    have hl0 : (idsL (l.take i)).length ≤ 100000 := by omega
    generalize idsL (l.take i) = out at *
    repeat' (first
      | refine WK.seq ?_
      | refine WK.reg ?_
      | refine IL.nil ?_
      | refine WK.skip ?_
      | refine WK.block ?_
      | refine WK.exit_here ?_
      | refine WK.exit_out1 (by decide) ?_
      | refine WK.exit_out2 (by decide) (by decide) ?_
      | refine WK.drawnS (id := 8) mixed [0] [17, 18] [0, 0, 0, 0, 0, 0, 0, 0, 0, 0, 0, 0, 0, 0, 0, 0, 0, 0, 1, 2] [1, 0, 0, 0, 0, 0, 0, 0, 0, 0, 0, 0, 0, 0, 0, 0, 0, 0, 1, 2] (by decide +kernel) ?_
      | refine DW.nil ?_
      | (with_reducible refine IL.wr ?_ ?_; (focus (first | exact wrap_i64 (by omega) (by omega) | exact wrap_u64 (by omega) (by omega) | exact wrap_u32 (by omega) (by omega) | exact wrap_u16 (by omega) (by omega) | exact wrap_u8 (by omega) (by omega))))
      | (with_reducible refine DW.wr ?_ ?_; (focus (first | exact wrap_i64 (by omega) (by omega) | exact wrap_u64 (by omega) (by omega) | exact wrap_u32 (by omega) (by omega) | exact wrap_u16 (by omega) (by omega) | exact wrap_u8 (by omega) (by omega))))
      | (refine IL.stepg (σ' := ?_) ttok (by first | exact .inl rfl | (refine Gok.mk2 (b := ?_) rfl ?_ ?_; rotate_left 1; (focus rfl); (focus (with_reducible rfl)))) (fun K hK => ?_) ?_; rotate_left 1; (focus (simp only [go_sem, reduceIte, hg2]; first | exact hK | (and_intros <;> first | exact hK | omega | assumption | rfl | decide))))
      | (refine IL.no (σ' := ?_) (by first | (refine Gno.mkT (b := ?_) rfl ?_ ?_; rotate_left 1; (focus rfl); (focus (with_reducible rfl))) | (refine Gno.mkF (b := ?_) rfl ?_ ?_; rotate_left 1; (focus rfl); (focus (with_reducible rfl))) | exact Gno.mkU rfl rfl) (fun K hK => ?_) ?_; rotate_left 1; (focus (simp only [go_sem, reduceIte]; exact hK)))
      | (refine DW.rd (L := ?_) (T' := ?_) ttok rfl rfl (by decide) ?_ ?_ (fun K hK => ?_) ?_ ?_; rotate_left 2; (focus rfl); (focus (first | exact .inl rfl | (refine Gok.mk2 (b := ?_) rfl ?_ ?_; rotate_left 1; (focus rfl); (focus (with_reducible rfl))))); (focus (simp only [go_sem, reduceIte, hg2]; first | exact hK | (and_intros <;> first | exact hK | omega | assumption | rfl | decide))); (focus (first | exact ⟨_, rfl⟩ | rfl)))
      | (refine DW.rdm (L := ?_) (T' := ?_) ttok rfl rfl ?_ ?_ (fun K hK => ?_) ?_ ?_; rotate_left 2; (focus rfl); (focus (first | exact .inl rfl | (refine Gok.mk2 (b := ?_) rfl ?_ ?_; rotate_left 1; (focus rfl); (focus (with_reducible rfl))))); (focus (simp only [go_sem, reduceIte, hg2]; first | exact hK | (and_intros <;> first | exact hK | omega | assumption | rfl | decide))); (focus (first | exact ⟨_, rfl⟩ | rfl)))
      | (refine DW.bl (L' := ?_) (T' := ?_) ttok rfl ?_ (fun K hK => ?_) ?_ ?_ ?_; rotate_left 2; (focus (first | exact .inl rfl | (refine Gok.mk2 (b := ?_) rfl ?_ ?_; rotate_left 1; (focus rfl); (focus (with_reducible rfl))))); (focus (simp only [go_sem, reduceIte, hg2]; first | exact hK | (and_intros <;> first | exact hK | omega | assumption | rfl | decide))); (focus (first | exact ⟨_, rfl⟩ | rfl)); (focus (first | exact .inl rfl | exact .inr (LEX.refl _ _) | exact .inr (LE.app _ _).lex | exact .inr (LEX.of (by simp only [go_sem, List.contains_cons, List.contains_nil, Nat.reduceBEq, Bool.or_false, Bool.false_or, Nat.reduceAdd, true_or, false_or, true_and]; first | done | trivial | (and_intros <;> first | exact ⟨_, rfl⟩ | trivial))))))
      | (refine DW.no (L := ?_) (T' := ?_) ?_ rfl ?_ (fun K hK => ?_) ?_ ?_; rotate_left 2; (focus rfl); (focus (first | (refine Gno.mkT (b := ?_) rfl ?_ ?_; rotate_left 1; (focus rfl); (focus (with_reducible rfl))) | (refine Gno.mkF (b := ?_) rfl ?_ ?_; rotate_left 1; (focus rfl); (focus (with_reducible rfl))) | exact Gno.mkU rfl rfl)); (focus (simp only [go_sem, reduceIte]; exact hK)); (focus (first | exact ⟨_, rfl⟩ | rfl)))
      | (refine DW.nob (T' := ?_) rfl ?_ (fun K hK => ?_) ?_ ?_; rotate_left 1; (focus (first | (refine Gno.mkT (b := ?_) rfl ?_ ?_; rotate_left 1; (focus rfl); (focus (with_reducible rfl))) | (refine Gno.mkF (b := ?_) rfl ?_ ?_; rotate_left 1; (focus rfl); (focus (with_reducible rfl))) | exact Gno.mkU rfl rfl)); (focus (simp only [go_sem, reduceIte]; exact hK)); (focus (first | exact ⟨_, rfl⟩ | rfl)))
      | ((first | (refine IL.askg (b := ?_) (d := ?_) ?_ ?_ (fun h => ?_) (fun h => ?_); rotate_left 2; (focus rfl); (focus rfl)) | (refine DW.askg (b := ?_) (d := ?_) ?_ ?_ (fun h => ?_) (fun h => ?_); rotate_left 2; (focus rfl); (focus rfl)) | (refine IL.askp (b := ?_) (d := ?_) ?_ ?_ (fun h => ?_) (fun h => ?_); rotate_left 2; (focus rfl); (focus rfl)) | (refine DW.askp (b := ?_) (d := ?_) ?_ ?_ (fun h => ?_) (fun h => ?_); rotate_left 2; (focus rfl); (focus rfl))); (fail_if_success (focus (simp only [reduceCtorEq] at h))); all_goals first | (simp only [Bool.and_eq_true, Bool.and_eq_false_iff, Bool.or_eq_true, Bool.or_eq_false_iff, Bool.not_eq_true', Bool.not_eq_false', beq_iff_eq, beq_eq_false_iff_ne, ne_eq, bne_iff_ne, bne_eq_false_iff_eq, decide_eq_true_eq, decide_eq_false_iff_not, Decidable.not_not] at h; first | done | (exfalso; omega; done) | skip) | skip)
      | (refine WK.cond (b := ?_) ?_ (fun h => ?_) (fun h => ?_); rotate_left 1; (focus rfl); all_goals first | (simp only [reduceCtorEq] at h; done) | (simp only [Bool.and_eq_true, Bool.and_eq_false_iff, Bool.or_eq_true, Bool.or_eq_false_iff, Bool.not_eq_true', Bool.not_eq_false', beq_iff_eq, beq_eq_false_iff_ne, ne_eq, bne_iff_ne, bne_eq_false_iff_eq, decide_eq_true_eq, decide_eq_false_iff_not, Decidable.not_not] at h; first | done | (exfalso; omega; done) | skip) | skip))
    refine WK.forS cn (fun k => True) (fun k => ⟨41, [(0, .tr l.length (encs spC l)), (3, .sl 0 0 0 (out ++ idsS (r, n, (cn : Int)) k).length), (4, .v (.int .i64 i)), (5, .v (.int .i64 k))], [some ⟨true, 34, (out ++ idsS (r, n, (cn : Int)) k).length, true, encs nmC (out ++ idsS (r, n, (cn : Int)) k), 0, false⟩]⟩) ⟨trivial, ?_⟩ (fun k hk ho2 => ?_) (fun ho2 => ?_)
    · have e0 : out ++ idsS (r, n, (cn : Int)) 0 = out := by simp [idsS]
      rw [e0]
      (refine Weak.renS [0] hfx rfl ?_ ?_ rfl <;> (simp only [go_sem, reduceIte, exists_eq_left', exists_eq_left, Blk.mk.injEq] <;> (try and_intros) <;> first | rfl | omega))
    · have hW : out ++ idsS (r, n, (cn : Int)) (k + 1) = (out ++ idsS (r, n, (cn : Int)) k) ++ [(r, n + k)] := by rw [idsS_succ, ← List.append_assoc]; rfl
      have hWl : (out ++ idsS (r, n, (cn : Int)) k).length ≤ 102000 := by rw [List.length_append, idsS_len]; omega
      rw [hW]
      generalize out ++ idsS (r, n, (cn : Int)) k = W at *
      have hcs : encs nmC W ++ [.v (.int .u16 r), .v (.int .u32 (n + k))] = encs nmC (W ++ [(r, n + (k : Int))]) := encs_snoc (f := nmC) W (_, _)
      have hln : (W ++ [(r, n + (k : Int))]).length = W.length + 1 := by simp
      repeat' (first
        | refine WK.seq ?_
        | refine WK.reg ?_
        | refine IL.nil ?_
        | refine WK.skip ?_
        | refine WK.block ?_
        | refine WK.exit_here ?_
        | refine WK.exit_out1 (by decide) ?_
        | refine WK.exit_out2 (by decide) (by decide) ?_
        | refine WK.drawnS (id := 8) mixed [0] [17, 18] [0, 0, 0, 0, 0, 0, 0, 0, 0, 0, 0, 0, 0, 0, 0, 0, 0, 0, 1, 2] [1, 0, 0, 0, 0, 0, 0, 0, 0, 0, 0, 0, 0, 0, 0, 0, 0, 0, 1, 2] (by decide +kernel) ?_
        | refine DW.nil ?_
        | (with_reducible refine IL.wr ?_ ?_; (focus (first | exact wrap_i64 (by omega) (by omega) | exact wrap_u64 (by omega) (by omega) | exact wrap_u32 (by omega) (by omega) | exact wrap_u16 (by omega) (by omega) | exact wrap_u8 (by omega) (by omega))))
        | (with_reducible refine DW.wr ?_ ?_; (focus (first | exact wrap_i64 (by omega) (by omega) | exact wrap_u64 (by omega) (by omega) | exact wrap_u32 (by omega) (by omega) | exact wrap_u16 (by omega) (by omega) | exact wrap_u8 (by omega) (by omega))))
        | (refine IL.stepg (σ' := ?_) ttok (by first | exact .inl rfl | (refine Gok.mk2 (b := ?_) rfl ?_ ?_; rotate_left 1; (focus rfl); (focus (with_reducible rfl)))) (fun K hK => ?_) ?_; rotate_left 1; (focus (simp only [go_sem, reduceIte, hat, hle, hg0, hg1, hg2]; first | exact hK | (and_intros <;> first | exact hK | omega | assumption | rfl | decide))))
        | (refine IL.no (σ' := ?_) (by first | (refine Gno.mkT (b := ?_) rfl ?_ ?_; rotate_left 1; (focus rfl); (focus (with_reducible rfl))) | (refine Gno.mkF (b := ?_) rfl ?_ ?_; rotate_left 1; (focus rfl); (focus (with_reducible rfl))) | exact Gno.mkU rfl rfl) (fun K hK => ?_) ?_; rotate_left 1; (focus (simp only [go_sem, reduceIte]; exact hK)))
        | (refine DW.rd (L := ?_) (T' := ?_) ttok rfl rfl (by decide) ?_ ?_ (fun K hK => ?_) ?_ ?_; rotate_left 2; (focus rfl); (focus (first | exact .inl rfl | (refine Gok.mk2 (b := ?_) rfl ?_ ?_; rotate_left 1; (focus rfl); (focus (with_reducible rfl))))); (focus (simp only [go_sem, reduceIte, hat, hle, hg0, hg1, hg2]; first | exact hK | (and_intros <;> first | exact hK | omega | assumption | rfl | decide))); (focus (first | exact ⟨_, rfl⟩ | rfl)))
        | (refine DW.rdm (L := ?_) (T' := ?_) ttok rfl rfl ?_ ?_ (fun K hK => ?_) ?_ ?_; rotate_left 2; (focus rfl); (focus (first | exact .inl rfl | (refine Gok.mk2 (b := ?_) rfl ?_ ?_; rotate_left 1; (focus rfl); (focus (with_reducible rfl))))); (focus (simp only [go_sem, reduceIte, hat, hle, hg0, hg1, hg2]; first | exact hK | (and_intros <;> first | exact hK | omega | assumption | rfl | decide))); (focus (first | exact ⟨_, rfl⟩ | rfl)))
        | (refine DW.bl (L' := ?_) (T' := ?_) ttok rfl ?_ (fun K hK => ?_) ?_ ?_ ?_; rotate_left 2; (focus (first | exact .inl rfl | (refine Gok.mk2 (b := ?_) rfl ?_ ?_; rotate_left 1; (focus rfl); (focus (with_reducible rfl))))); (focus (simp only [go_sem, reduceIte, hat, hle, hg0, hg1, hg2]; first | exact hK | (and_intros <;> first | exact hK | omega | assumption | rfl | decide))); (focus (first | exact ⟨_, rfl⟩ | rfl)); (focus (first | exact .inl rfl | exact .inr (LEX.refl _ _) | exact .inr (LE.app _ _).lex | exact .inr (LEX.of (by simp only [go_sem, List.contains_cons, List.contains_nil, Nat.reduceBEq, Bool.or_false, Bool.false_or, Nat.reduceAdd, true_or, false_or, true_and]; first | done | trivial | (and_intros <;> first | exact ⟨_, rfl⟩ | trivial))))))
        | (refine DW.no (L := ?_) (T' := ?_) ?_ rfl ?_ (fun K hK => ?_) ?_ ?_; rotate_left 2; (focus rfl); (focus (first | (refine Gno.mkT (b := ?_) rfl ?_ ?_; rotate_left 1; (focus rfl); (focus (with_reducible rfl))) | (refine Gno.mkF (b := ?_) rfl ?_ ?_; rotate_left 1; (focus rfl); (focus (with_reducible rfl))) | exact Gno.mkU rfl rfl)); (focus (simp only [go_sem, reduceIte]; exact hK)); (focus (first | exact ⟨_, rfl⟩ | rfl)))
        | (refine DW.nob (T' := ?_) rfl ?_ (fun K hK => ?_) ?_ ?_; rotate_left 1; (focus (first | (refine Gno.mkT (b := ?_) rfl ?_ ?_; rotate_left 1; (focus rfl); (focus (with_reducible rfl))) | (refine Gno.mkF (b := ?_) rfl ?_ ?_; rotate_left 1; (focus rfl); (focus (with_reducible rfl))) | exact Gno.mkU rfl rfl)); (focus (simp only [go_sem, reduceIte]; exact hK)); (focus (first | exact ⟨_, rfl⟩ | rfl)))
        | ((first | (refine IL.askg (b := ?_) (d := ?_) ?_ ?_ (fun h => ?_) (fun h => ?_); rotate_left 2; (focus rfl); (focus rfl)) | (refine DW.askg (b := ?_) (d := ?_) ?_ ?_ (fun h => ?_) (fun h => ?_); rotate_left 2; (focus rfl); (focus rfl)) | (refine IL.askp (b := ?_) (d := ?_) ?_ ?_ (fun h => ?_) (fun h => ?_); rotate_left 2; (focus rfl); (focus rfl)) | (refine DW.askp (b := ?_) (d := ?_) ?_ ?_ (fun h => ?_) (fun h => ?_); rotate_left 2; (focus rfl); (focus rfl))); (fail_if_success (focus (simp only [reduceCtorEq] at h))); all_goals first | (simp only [Bool.and_eq_true, Bool.and_eq_false_iff, Bool.or_eq_true, Bool.or_eq_false_iff, Bool.not_eq_true', Bool.not_eq_false', beq_iff_eq, beq_eq_false_iff_ne, ne_eq, bne_iff_ne, bne_eq_false_iff_eq, decide_eq_true_eq, decide_eq_false_iff_not, Decidable.not_not] at h; first | done | (exfalso; omega; done) | skip) | skip)
        | (refine WK.cond (b := ?_) ?_ (fun h => ?_) (fun h => ?_); rotate_left 1; (focus rfl); all_goals first | (simp only [reduceCtorEq] at h; done) | (simp only [Bool.and_eq_true, Bool.and_eq_false_iff, Bool.or_eq_true, Bool.or_eq_false_iff, Bool.not_eq_true', Bool.not_eq_false', beq_iff_eq, beq_eq_false_iff_ne, ne_eq, bne_iff_ne, bne_eq_false_iff_eq, decide_eq_true_eq, decide_eq_false_iff_not, Decidable.not_not] at h; first | done | (exfalso; omega; done) | skip) | skip))
      all_goals try ((first | refine WK.ret ⟨.inr rfl, Fin.of (q' := ?_) (A2 := ?_) (k1 := ?_) (k2 := ?_) ?_ ?_ ?_ ?_ ?_⟩ | refine ⟨.inl rfl, Fin.of (q' := ?_) (A2 := ?_) (k1 := ?_) (k2 := ?_) ?_ ?_ ?_ ?_ ?_⟩ | refine ⟨.inl trivial, Fin.of (q' := ?_) (A2 := ?_) (k1 := ?_) (k2 := ?_) ?_ ?_ ?_ ?_ ?_⟩); rotate_left 4; (focus (first | rfl | (simp only [go_sem, show Try.f39.results.toList = [.tmp 2] from rfl, reduceIte] <;> rfl))); (focus (first | rfl | (simp only [go_sem, reduceIte] <;> rfl))); (focus rfl); rotate_left 1; (focus (first | rfl | skip)); all_goals try with_reducible rfl)
      refine ⟨trivial, ?_⟩
      (refine Weak.renS [0] hfx rfl ?_ ?_ rfl <;> (simp only [go_sem, reduceIte, exists_eq_left', exists_eq_left, Blk.mk.injEq, hcs, hln] <;> (try and_intros) <;> first | rfl | omega))
    · repeat' (first
        | refine WK.seq ?_
        | refine WK.reg ?_
        | refine IL.nil ?_
        | refine WK.skip ?_
        | refine WK.block ?_
        | refine WK.exit_here ?_
        | refine WK.exit_out1 (by decide) ?_
        | refine WK.exit_out2 (by decide) (by decide) ?_
        | refine WK.drawnS (id := 8) mixed [0] [17, 18] [0, 0, 0, 0, 0, 0, 0, 0, 0, 0, 0, 0, 0, 0, 0, 0, 0, 0, 1, 2] [1, 0, 0, 0, 0, 0, 0, 0, 0, 0, 0, 0, 0, 0, 0, 0, 0, 0, 1, 2] (by decide +kernel) ?_
        | refine DW.nil ?_
        | (with_reducible refine IL.wr ?_ ?_; (focus (first | exact wrap_i64 (by omega) (by omega) | exact wrap_u64 (by omega) (by omega) | exact wrap_u32 (by omega) (by omega) | exact wrap_u16 (by omega) (by omega) | exact wrap_u8 (by omega) (by omega))))
        | (with_reducible refine DW.wr ?_ ?_; (focus (first | exact wrap_i64 (by omega) (by omega) | exact wrap_u64 (by omega) (by omega) | exact wrap_u32 (by omega) (by omega) | exact wrap_u16 (by omega) (by omega) | exact wrap_u8 (by omega) (by omega))))
        | (refine IL.stepg (σ' := ?_) ttok (by first | exact .inl rfl | (refine Gok.mk2 (b := ?_) rfl ?_ ?_; rotate_left 1; (focus rfl); (focus (with_reducible rfl)))) (fun K hK => ?_) ?_; rotate_left 1; (focus (simp only [go_sem, reduceIte, hg2]; first | exact hK | (and_intros <;> first | exact hK | omega | assumption | rfl | decide))))
        | (refine IL.no (σ' := ?_) (by first | (refine Gno.mkT (b := ?_) rfl ?_ ?_; rotate_left 1; (focus rfl); (focus (with_reducible rfl))) | (refine Gno.mkF (b := ?_) rfl ?_ ?_; rotate_left 1; (focus rfl); (focus (with_reducible rfl))) | exact Gno.mkU rfl rfl) (fun K hK => ?_) ?_; rotate_left 1; (focus (simp only [go_sem, reduceIte]; exact hK)))
        | (refine DW.rd (L := ?_) (T' := ?_) ttok rfl rfl (by decide) ?_ ?_ (fun K hK => ?_) ?_ ?_; rotate_left 2; (focus rfl); (focus (first | exact .inl rfl | (refine Gok.mk2 (b := ?_) rfl ?_ ?_; rotate_left 1; (focus rfl); (focus (with_reducible rfl))))); (focus (simp only [go_sem, reduceIte, hg2]; first | exact hK | (and_intros <;> first | exact hK | omega | assumption | rfl | decide))); (focus (first | exact ⟨_, rfl⟩ | rfl)))
        | (refine DW.rdm (L := ?_) (T' := ?_) ttok rfl rfl ?_ ?_ (fun K hK => ?_) ?_ ?_; rotate_left 2; (focus rfl); (focus (first | exact .inl rfl | (refine Gok.mk2 (b := ?_) rfl ?_ ?_; rotate_left 1; (focus rfl); (focus (with_reducible rfl))))); (focus (simp only [go_sem, reduceIte, hg2]; first | exact hK | (and_intros <;> first | exact hK | omega | assumption | rfl | decide))); (focus (first | exact ⟨_, rfl⟩ | rfl)))
        | (refine DW.bl (L' := ?_) (T' := ?_) ttok rfl ?_ (fun K hK => ?_) ?_ ?_ ?_; rotate_left 2; (focus (first | exact .inl rfl | (refine Gok.mk2 (b := ?_) rfl ?_ ?_; rotate_left 1; (focus rfl); (focus (with_reducible rfl))))); (focus (simp only [go_sem, reduceIte, hg2]; first | exact hK | (and_intros <;> first | exact hK | omega | assumption | rfl | decide))); (focus (first | exact ⟨_, rfl⟩ | rfl)); (focus (first | exact .inl rfl | exact .inr (LEX.refl _ _) | exact .inr (LE.app _ _).lex | exact .inr (LEX.of (by simp only [go_sem, List.contains_cons, List.contains_nil, Nat.reduceBEq, Bool.or_false, Bool.false_or, Nat.reduceAdd, true_or, false_or, true_and]; first | done | trivial | (and_intros <;> first | exact ⟨_, rfl⟩ | trivial))))))
        | (refine DW.no (L := ?_) (T' := ?_) ?_ rfl ?_ (fun K hK => ?_) ?_ ?_; rotate_left 2; (focus rfl); (focus (first | (refine Gno.mkT (b := ?_) rfl ?_ ?_; rotate_left 1; (focus rfl); (focus (with_reducible rfl))) | (refine Gno.mkF (b := ?_) rfl ?_ ?_; rotate_left 1; (focus rfl); (focus (with_reducible rfl))) | exact Gno.mkU rfl rfl)); (focus (simp only [go_sem, reduceIte]; exact hK)); (focus (first | exact ⟨_, rfl⟩ | rfl)))
        | (refine DW.nob (T' := ?_) rfl ?_ (fun K hK => ?_) ?_ ?_; rotate_left 1; (focus (first | (refine Gno.mkT (b := ?_) rfl ?_ ?_; rotate_left 1; (focus rfl); (focus (with_reducible rfl))) | (refine Gno.mkF (b := ?_) rfl ?_ ?_; rotate_left 1; (focus rfl); (focus (with_reducible rfl))) | exact Gno.mkU rfl rfl)); (focus (simp only [go_sem, reduceIte]; exact hK)); (focus (first | exact ⟨_, rfl⟩ | rfl)))
        | ((first | (refine IL.askg (b := ?_) (d := ?_) ?_ ?_ (fun h => ?_) (fun h => ?_); rotate_left 2; (focus rfl); (focus rfl)) | (refine DW.askg (b := ?_) (d := ?_) ?_ ?_ (fun h => ?_) (fun h => ?_); rotate_left 2; (focus rfl); (focus rfl)) | (refine IL.askp (b := ?_) (d := ?_) ?_ ?_ (fun h => ?_) (fun h => ?_); rotate_left 2; (focus rfl); (focus rfl)) | (refine DW.askp (b := ?_) (d := ?_) ?_ ?_ (fun h => ?_) (fun h => ?_); rotate_left 2; (focus rfl); (focus rfl))); (fail_if_success (focus (simp only [reduceCtorEq] at h))); all_goals first | (simp only [Bool.and_eq_true, Bool.and_eq_false_iff, Bool.or_eq_true, Bool.or_eq_false_iff, Bool.not_eq_true', Bool.not_eq_false', beq_iff_eq, beq_eq_false_iff_ne, ne_eq, bne_iff_ne, bne_eq_false_iff_eq, decide_eq_true_eq, decide_eq_false_iff_not, Decidable.not_not] at h; first | done | (exfalso; omega; done) | skip) | skip)
        | (refine WK.cond (b := ?_) ?_ (fun h => ?_) (fun h => ?_); rotate_left 1; (focus rfl); all_goals first | (simp only [reduceCtorEq] at h; done) | (simp only [Bool.and_eq_true, Bool.and_eq_false_iff, Bool.or_eq_true, Bool.or_eq_false_iff, Bool.not_eq_true', Bool.not_eq_false', beq_iff_eq, beq_eq_false_iff_ne, ne_eq, bne_iff_ne, bne_eq_false_iff_eq, decide_eq_true_eq, decide_eq_false_iff_not, Decidable.not_not] at h; first | done | (exfalso; omega; done) | skip) | skip))
      refine ⟨trivial, ?_⟩
      (refine Weak.renS [0] hfx rfl ?_ ?_ rfl <;> (simp only [go_sem, reduceIte, exists_eq_left', exists_eq_left, Blk.mk.injEq] <;> (try and_intros) <;> first | rfl | omega))
  · rw [List.take_length]
    repeat' (first
      | refine WK.seq ?_
      | refine WK.reg ?_
      | refine IL.nil ?_
      | refine WK.skip ?_
      | refine WK.block ?_
      | refine WK.exit_here ?_
      | refine WK.exit_out1 (by decide) ?_
      | refine WK.exit_out2 (by decide) (by decide) ?_
      | refine WK.drawnS (id := 8) mixed [0] [17, 18] [0, 0, 0, 0, 0, 0, 0, 0, 0, 0, 0, 0, 0, 0, 0, 0, 0, 0, 1, 2] [1, 0, 0, 0, 0, 0, 0, 0, 0, 0, 0, 0, 0, 0, 0, 0, 0, 0, 1, 2] (by decide +kernel) ?_
      | refine DW.nil ?_
      | (with_reducible refine IL.wr ?_ ?_; (focus (first | exact wrap_i64 (by omega) (by omega) | exact wrap_u64 (by omega) (by omega) | exact wrap_u32 (by omega) (by omega) | exact wrap_u16 (by omega) (by omega) | exact wrap_u8 (by omega) (by omega))))
      | (with_reducible refine DW.wr ?_ ?_; (focus (first | exact wrap_i64 (by omega) (by omega) | exact wrap_u64 (by omega) (by omega) | exact wrap_u32 (by omega) (by omega) | exact wrap_u16 (by omega) (by omega) | exact wrap_u8 (by omega) (by omega))))
      | (refine IL.stepg (σ' := ?_) ttok (by first | exact .inl rfl | (refine Gok.mk2 (b := ?_) rfl ?_ ?_; rotate_left 1; (focus rfl); (focus (with_reducible rfl)))) (fun K hK => ?_) ?_; rotate_left 1; (focus (simp only [go_sem, reduceIte]; first | exact hK | (and_intros <;> first | exact hK | omega | assumption | rfl | decide))))
      | (refine IL.no (σ' := ?_) (by first | (refine Gno.mkT (b := ?_) rfl ?_ ?_; rotate_left 1; (focus rfl); (focus (with_reducible rfl))) | (refine Gno.mkF (b := ?_) rfl ?_ ?_; rotate_left 1; (focus rfl); (focus (with_reducible rfl))) | exact Gno.mkU rfl rfl) (fun K hK => ?_) ?_; rotate_left 1; (focus (simp only [go_sem, reduceIte]; exact hK)))
      | (refine DW.rd (L := ?_) (T' := ?_) ttok rfl rfl (by decide) ?_ ?_ (fun K hK => ?_) ?_ ?_; rotate_left 2; (focus rfl); (focus (first | exact .inl rfl | (refine Gok.mk2 (b := ?_) rfl ?_ ?_; rotate_left 1; (focus rfl); (focus (with_reducible rfl))))); (focus (simp only [go_sem, reduceIte]; first | exact hK | (and_intros <;> first | exact hK | omega | assumption | rfl | decide))); (focus (first | exact ⟨_, rfl⟩ | rfl)))
      | (refine DW.rdm (L := ?_) (T' := ?_) ttok rfl rfl ?_ ?_ (fun K hK => ?_) ?_ ?_; rotate_left 2; (focus rfl); (focus (first | exact .inl rfl | (refine Gok.mk2 (b := ?_) rfl ?_ ?_; rotate_left 1; (focus rfl); (focus (with_reducible rfl))))); (focus (simp only [go_sem, reduceIte]; first | exact hK | (and_intros <;> first | exact hK | omega | assumption | rfl | decide))); (focus (first | exact ⟨_, rfl⟩ | rfl)))
      | (refine DW.bl (L' := ?_) (T' := ?_) ttok rfl ?_ (fun K hK => ?_) ?_ ?_ ?_; rotate_left 2; (focus (first | exact .inl rfl | (refine Gok.mk2 (b := ?_) rfl ?_ ?_; rotate_left 1; (focus rfl); (focus (with_reducible rfl))))); (focus (simp only [go_sem, reduceIte]; first | exact hK | (and_intros <;> first | exact hK | omega | assumption | rfl | decide))); (focus (first | exact ⟨_, rfl⟩ | rfl)); (focus (first | exact .inl rfl | exact .inr (LEX.refl _ _) | exact .inr (LE.app _ _).lex | exact .inr (LEX.of (by simp only [go_sem, List.contains_cons, List.contains_nil, Nat.reduceBEq, Bool.or_false, Bool.false_or, Nat.reduceAdd, true_or, false_or, true_and]; first | done | trivial | (and_intros <;> first | exact ⟨_, rfl⟩ | trivial))))))
      | (refine DW.no (L := ?_) (T' := ?_) ?_ rfl ?_ (fun K hK => ?_) ?_ ?_; rotate_left 2; (focus rfl); (focus (first | (refine Gno.mkT (b := ?_) rfl ?_ ?_; rotate_left 1; (focus rfl); (focus (with_reducible rfl))) | (refine Gno.mkF (b := ?_) rfl ?_ ?_; rotate_left 1; (focus rfl); (focus (with_reducible rfl))) | exact Gno.mkU rfl rfl)); (focus (simp only [go_sem, reduceIte]; exact hK)); (focus (first | exact ⟨_, rfl⟩ | rfl)))
      | (refine DW.nob (T' := ?_) rfl ?_ (fun K hK => ?_) ?_ ?_; rotate_left 1; (focus (first | (refine Gno.mkT (b := ?_) rfl ?_ ?_; rotate_left 1; (focus rfl); (focus (with_reducible rfl))) | (refine Gno.mkF (b := ?_) rfl ?_ ?_; rotate_left 1; (focus rfl); (focus (with_reducible rfl))) | exact Gno.mkU rfl rfl)); (focus (simp only [go_sem, reduceIte]; exact hK)); (focus (first | exact ⟨_, rfl⟩ | rfl)))
      | ((first | (refine IL.askg (b := ?_) (d := ?_) ?_ ?_ (fun h => ?_) (fun h => ?_); rotate_left 2; (focus rfl); (focus rfl)) | (refine DW.askg (b := ?_) (d := ?_) ?_ ?_ (fun h => ?_) (fun h => ?_); rotate_left 2; (focus rfl); (focus rfl)) | (refine IL.askp (b := ?_) (d := ?_) ?_ ?_ (fun h => ?_) (fun h => ?_); rotate_left 2; (focus rfl); (focus rfl)) | (refine DW.askp (b := ?_) (d := ?_) ?_ ?_ (fun h => ?_) (fun h => ?_); rotate_left 2; (focus rfl); (focus rfl))); (fail_if_success (focus (simp only [reduceCtorEq] at h))); all_goals first | (simp only [Bool.and_eq_true, Bool.and_eq_false_iff, Bool.or_eq_true, Bool.or_eq_false_iff, Bool.not_eq_true', Bool.not_eq_false', beq_iff_eq, beq_eq_false_iff_ne, ne_eq, bne_iff_ne, bne_eq_false_iff_eq, decide_eq_true_eq, decide_eq_false_iff_not, Decidable.not_not] at h; first | done | (exfalso; omega; done) | skip) | skip)
      | (refine WK.cond (b := ?_) ?_ (fun h => ?_) (fun h => ?_); rotate_left 1; (focus rfl); all_goals first | (simp only [reduceCtorEq] at h; done) | (simp only [Bool.and_eq_true, Bool.and_eq_false_iff, Bool.or_eq_true, Bool.or_eq_false_iff, Bool.not_eq_true', Bool.not_eq_false', beq_iff_eq, beq_eq_false_iff_ne, ne_eq, bne_iff_ne, bne_eq_false_iff_eq, decide_eq_true_eq, decide_eq_false_iff_not, Decidable.not_not] at h; first | done | (exfalso; omega; done) | skip) | skip))
    all_goals try ((first | refine WK.ret ⟨.inr rfl, Fin.of (q' := ?_) (A2 := ?_) (k1 := ?_) (k2 := ?_) ?_ ?_ ?_ ?_ ?_⟩ | refine ⟨.inl rfl, Fin.of (q' := ?_) (A2 := ?_) (k1 := ?_) (k2 := ?_) ?_ ?_ ?_ ?_ ?_⟩ | refine ⟨.inl trivial, Fin.of (q' := ?_) (A2 := ?_) (k1 := ?_) (k2 := ?_) ?_ ?_ ?_ ?_ ?_⟩); rotate_left 4; (focus (first | rfl | (simp only [go_sem, show Try.f39.results.toList = [.tmp 2] from rfl, reduceIte] <;> rfl))); (focus (first | rfl | (simp only [go_sem, reduceIte] <;> rfl))); (focus rfl); rotate_left 1; (focus (first | rfl | skip)); all_goals try with_reducible rfl)
    all_goals rfl
end Go.Proofs.Ytolbmgkoifchfaa
