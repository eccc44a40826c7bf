/- package trail. -/
import Derived.Test.YtnfcjdgmhbhecaaDoorLX7V1
import Derived.Test.YtnfcjdgmhbhecaaDoorLA3
namespace Go.Proofs.YtnfcjdgmhbhecaaDoor
open Go Go.Lift
set_option maxHeartbeats 4000000
set_option linter.unusedSimpArgs false
set_option linter.unusedVariables false
attribute [local irreducible] WK IL IP IG IW DW

theorem FZ_fmin {x y : Nat} {a b : Int} (hx : FZ x a) (hy : FZ y b) : fmin x y = some ((fmin x y).getD 0) ∧ FZ ((fmin x y).getD 0) (min a b) := by
  unfold fmin
  rw [hx.order hy]
  rcases Int.lt_trichotomy a b with h | h | h
  · rw [Int.compare_eq_lt.2 h]; exact ⟨rfl, by rw [Int.min_eq_left (by omega)]; exact hx⟩
  · subst h
    rw [Int.compare_eq_eq.2 rfl, Int.min_self]
    refine ⟨rfl, ?_⟩
    show FZ (if _ then x else y) a
    split <;> assumption
  · rw [Int.compare_eq_gt.2 h]; exact ⟨rfl, by rw [Int.min_eq_right (by omega)]; exact hy⟩
theorem FZ_fmax {x y : Nat} {a b : Int} (hx : FZ x a) (hy : FZ y b) : fmax x y = some ((fmax x y).getD 0) ∧ FZ ((fmax x y).getD 0) (max a b) := by
  unfold fmax
  rw [hx.order hy]
  rcases Int.lt_trichotomy a b with h | h | h
  · rw [Int.compare_eq_lt.2 h]; exact ⟨rfl, by rw [Int.max_eq_right (by omega)]; exact hy⟩
  · subst h
    rw [Int.compare_eq_eq.2 rfl, Int.max_self]
    refine ⟨rfl, ?_⟩
    show FZ (if _ then y else x) a
    split <;> assumption
  · rw [Int.compare_eq_gt.2 h]; exact ⟨rfl, by rw [Int.max_eq_left (by omega)]; exact hx⟩
def leastB (p q : CB) : CB := ((fmin p.1 q.1).getD 0, (fmin p.2 q.2).getD 0)
def mostB (p q : CB) : CB := ((fmax p.1 q.1).getD 0, (fmax p.2 q.2).getD 0)
theorem leastB_CZ {p q : CB} {z y : GI} (hp : CZ p z) (hq : CZ q y) : fmin p.1 q.1 = some (leastB p q).1 ∧ fmin p.2 q.2 = some (leastB p q).2 ∧ CZ (leastB p q) (gmin z y) := by
  obtain ⟨a1, a2⟩ := FZ_fmin hp.1 hq.1
  obtain ⟨b1, b2⟩ := FZ_fmin hp.2 hq.2
  exact ⟨a1, b1, a2, b2⟩
theorem mostB_CZ {p q : CB} {z y : GI} (hp : CZ p z) (hq : CZ q y) : fmax p.1 q.1 = some (mostB p q).1 ∧ fmax p.2 q.2 = some (mostB p q).2 ∧ CZ (mostB p q) (gmax z y) := by
  obtain ⟨a1, a2⟩ := FZ_fmax hp.1 hq.1
  obtain ⟨b1, b2⟩ := FZ_fmax hp.2 hq.2
  exact ⟨a1, b1, a2, b2⟩
attribute [local irreducible] fmin fmax cMulBits cSumBits floatBits
/-- two more corners -/
theorem least_call (a1 a2 x1 x2 y1 y2 m1 m2 r1 r2 : Nat) (h1 : fmin a1 x1 = some m1) (h2 : fmin a2 x2 = some m2) (h3 : fmin m1 y1 = some r1) (h4 : fmin m2 y2 = some r2) : SCall Tryd.prog 86 [.v (.complex .f64 a1 a2), .tr 2 [.v (.complex .f64 x1 x2), .v (.complex .f64 y1 y2)]] (.v (.complex .f64 r1 r2)) [.v (.complex .f64 a1 a2), .tr 2 [.v (.complex .f64 x1 x2), .v (.complex .f64 y1 y2)]] := by
  have hne : [IV.v (.complex .f64 x1 x2), .v (.complex .f64 y1 y2)] ≠ [] := by simp
  refine SCall.of_body' (TT := TT) (fun _ => false) [false, false] ttok Tryd.func86 rfl (Nat.le_of_ble_eq_true rfl) rfl fun fx hfx => WK.top ?_
  simp only [impl, imp, argT, List.append_nil, List.map_nil, List.nil_append, show Tryd.f86.ntmps = 26 from rfl, Nat.zero_add, Nat.reduceAdd]
  repeat' (first | refine WK.seq ?_ | refine WK.reg ?_ | refine IL.nil ?_ | refine WK.skip ?_ | refine WK.block ?_ | refine WK.exit_here ?_ | refine WK.exit_out1 (by decide) ?_ | refine WK.exit_out2 (by decide) (by decide) ?_ | (with_reducible refine IL.wr ?_ ?_; (focus (first | exact wrap_i64 (by omega) (by omega) | exact wrap_u64 (by omega) (by omega) | exact wrap_u32 (by omega) (by omega) | exact wrap_u16 (by omega) (by omega) | exact wrap_u8 (by omega) (by omega)))) | (refine IL.stepg (σ' := ?_) ttok (by first | exact .inl rfl | (refine Gok.mk2 (b := ?_) rfl ?_ ?_; rotate_left 1; (focus rfl); (focus (with_reducible rfl)))) (fun K hK => ?_) ?_; rotate_left 1; (focus (simp only [go_sem, reduceIte]; first | exact hK | (and_intros <;> first | exact hK | omega | assumption | rfl | decide)))) | (refine IL.no (σ' := ?_) (by first | (refine Gno.mkT (b := ?_) rfl ?_ ?_; rotate_left 1; (focus rfl); (focus (with_reducible rfl))) | (refine Gno.mkF (b := ?_) rfl ?_ ?_; rotate_left 1; (focus rfl); (focus (with_reducible rfl))) | exact Gno.mkU rfl rfl) (fun K hK => ?_) ?_; rotate_left 1; (focus (simp only [go_sem, reduceIte]; exact hK))) | ((first | ((first | (refine IL.askg (b := ?_) (d := ?_) ?_ ?_ (fun h => ?_) (fun h => ?_); rotate_left 2; (focus rfl); (focus rfl)) | (refine IL.askp (b := ?_) (d := ?_) ?_ ?_ (fun h => ?_) (fun h => ?_); rotate_left 2; (focus rfl); (focus rfl))); (fail_if_success (focus (simp only [reduceCtorEq] at h)))) | (refine WK.cond (b := ?_) ?_ (fun h => ?_) (fun h => ?_); rotate_left 1; (focus rfl))); all_goals first | (simp only [reduceCtorEq] at h; done) | (simp only [Bool.and_eq_true, Bool.and_eq_false_iff, Bool.or_eq_true, Bool.or_eq_false_iff, Bool.not_eq_true', Bool.not_eq_false', beq_iff_eq, beq_eq_false_iff_ne, ne_eq, bne_iff_ne, bne_eq_false_iff_eq, decide_eq_true_eq, decide_eq_false_iff_not, Decidable.not_not] at h; first | done | (exfalso; omega; done) | skip) | skip))
  refine WK.whileS (α := Nat × Nat × Nat) (fun x => 2 - x.1) (fun x => x = (0, a1, a2) ∨ x = (1, m1, m2) ∨ x = (2, r1, r2)) (fun x => ⟨26, [(0, .v (.complex .f64 x.2.1 x.2.2)), (7, .tr 2 [.v (.complex .f64 x1 x2), .v (.complex .f64 y1 y2)]), (8, .v (.int .i64 2)), (9, .v (.int .i64 x.1))], []⟩) (0, a1, a2) ⟨.inl rfl, ?_⟩ ?_
  · (refine Weak.renS [] hfx rfl ?_ ?_ rfl <;> (simp only [go_sem, reduceIte, exists_eq_left', exists_eq_left, Blk.mk.injEq] <;> (try and_intros) <;> first | rfl | omega))
  · intro x hx
    rcases hx with rfl | rfl | rfl <;> simp only [Int.natCast_zero, Int.natCast_one, Int.cast_ofNat_Int]
    · repeat' (first | refine WK.seq ?_ | refine WK.reg ?_ | refine IL.nil ?_ | refine WK.skip ?_ | refine WK.block ?_ | refine WK.exit_here ?_ | refine WK.exit_out1 (by decide) ?_ | refine WK.exit_out2 (by decide) (by decide) ?_ | (with_reducible refine IL.wr ?_ ?_; (focus (first | exact wrap_i64 (by omega) (by omega) | exact wrap_u64 (by omega) (by omega) | exact wrap_u32 (by omega) (by omega) | exact wrap_u16 (by omega) (by omega) | exact wrap_u8 (by omega) (by omega)))) | (refine IL.stepg (σ' := ?_) ttok (by first | exact .inl rfl | (refine Gok.mk2 (b := ?_) rfl ?_ ?_; rotate_left 1; (focus rfl); (focus (with_reducible rfl)))) (fun K hK => ?_) ?_; rotate_left 1; (focus (simp only [go_sem, reduceIte, h1, h2]; first | exact hK | (and_intros <;> first | exact hK | omega | assumption | rfl | decide)))) | (refine IL.no (σ' := ?_) (by first | (refine Gno.mkT (b := ?_) rfl ?_ ?_; rotate_left 1; (focus rfl); (focus (with_reducible rfl))) | (refine Gno.mkF (b := ?_) rfl ?_ ?_; rotate_left 1; (focus rfl); (focus (with_reducible rfl))) | exact Gno.mkU rfl rfl) (fun K hK => ?_) ?_; rotate_left 1; (focus (simp only [go_sem, reduceIte]; exact hK))) | ((first | ((first | (refine IL.askg (b := ?_) (d := ?_) ?_ ?_ (fun h => ?_) (fun h => ?_); rotate_left 2; (focus rfl); (focus rfl)) | (refine IL.askp (b := ?_) (d := ?_) ?_ ?_ (fun h => ?_) (fun h => ?_); rotate_left 2; (focus rfl); (focus rfl))); (fail_if_success (focus (simp only [reduceCtorEq] at h)))) | (refine WK.cond (b := ?_) ?_ (fun h => ?_) (fun h => ?_); rotate_left 1; (focus rfl))); all_goals first | (simp only [reduceCtorEq] at h; done) | (simp only [Bool.and_eq_true, Bool.and_eq_false_iff, Bool.or_eq_true, Bool.or_eq_false_iff, Bool.not_eq_true', Bool.not_eq_false', beq_iff_eq, beq_eq_false_iff_ne, ne_eq, bne_iff_ne, bne_eq_false_iff_eq, decide_eq_true_eq, decide_eq_false_iff_not, Decidable.not_not] at h; first | done | (exfalso; omega; done) | skip) | skip))
      refine ⟨(1, m1, m2), by simp, .inr (.inl rfl), ?_⟩
      (refine Weak.renS [] hfx rfl ?_ ?_ rfl <;> (simp only [go_sem, reduceIte, exists_eq_left', exists_eq_left, Blk.mk.injEq] <;> (try and_intros) <;> first | rfl | omega))
    · repeat' (first | refine WK.seq ?_ | refine WK.reg ?_ | refine IL.nil ?_ | refine WK.skip ?_ | refine WK.block ?_ | refine WK.exit_here ?_ | refine WK.exit_out1 (by decide) ?_ | refine WK.exit_out2 (by decide) (by decide) ?_ | (with_reducible refine IL.wr ?_ ?_; (focus (first | exact wrap_i64 (by omega) (by omega) | exact wrap_u64 (by omega) (by omega) | exact wrap_u32 (by omega) (by omega) | exact wrap_u16 (by omega) (by omega) | exact wrap_u8 (by omega) (by omega)))) | (refine IL.stepg (σ' := ?_) ttok (by first | exact .inl rfl | (refine Gok.mk2 (b := ?_) rfl ?_ ?_; rotate_left 1; (focus rfl); (focus (with_reducible rfl)))) (fun K hK => ?_) ?_; rotate_left 1; (focus (simp only [go_sem, reduceIte, h3, h4]; first | exact hK | (and_intros <;> first | exact hK | omega | assumption | rfl | decide)))) | (refine IL.no (σ' := ?_) (by first | (refine Gno.mkT (b := ?_) rfl ?_ ?_; rotate_left 1; (focus rfl); (focus (with_reducible rfl))) | (refine Gno.mkF (b := ?_) rfl ?_ ?_; rotate_left 1; (focus rfl); (focus (with_reducible rfl))) | exact Gno.mkU rfl rfl) (fun K hK => ?_) ?_; rotate_left 1; (focus (simp only [go_sem, reduceIte]; exact hK))) | ((first | ((first | (refine IL.askg (b := ?_) (d := ?_) ?_ ?_ (fun h => ?_) (fun h => ?_); rotate_left 2; (focus rfl); (focus rfl)) | (refine IL.askp (b := ?_) (d := ?_) ?_ ?_ (fun h => ?_) (fun h => ?_); rotate_left 2; (focus rfl); (focus rfl))); (fail_if_success (focus (simp only [reduceCtorEq] at h)))) | (refine WK.cond (b := ?_) ?_ (fun h => ?_) (fun h => ?_); rotate_left 1; (focus rfl))); all_goals first | (simp only [reduceCtorEq] at h; done) | (simp only [Bool.and_eq_true, Bool.and_eq_false_iff, Bool.or_eq_true, Bool.or_eq_false_iff, Bool.not_eq_true', Bool.not_eq_false', beq_iff_eq, beq_eq_false_iff_ne, ne_eq, bne_iff_ne, bne_eq_false_iff_eq, decide_eq_true_eq, decide_eq_false_iff_not, Decidable.not_not] at h; first | done | (exfalso; omega; done) | skip) | skip))
      refine ⟨(2, r1, r2), by simp, .inr (.inr rfl), ?_⟩
      (refine Weak.renS [] hfx rfl ?_ ?_ rfl <;> (simp only [go_sem, reduceIte, exists_eq_left', exists_eq_left, Blk.mk.injEq] <;> (try and_intros) <;> first | rfl | omega))
    · repeat' (first | refine WK.seq ?_ | refine WK.reg ?_ | refine IL.nil ?_ | refine WK.skip ?_ | refine WK.block ?_ | refine WK.exit_here ?_ | refine WK.exit_out1 (by decide) ?_ | refine WK.exit_out2 (by decide) (by decide) ?_ | (with_reducible refine IL.wr ?_ ?_; (focus (first | exact wrap_i64 (by omega) (by omega) | exact wrap_u64 (by omega) (by omega) | exact wrap_u32 (by omega) (by omega) | exact wrap_u16 (by omega) (by omega) | exact wrap_u8 (by omega) (by omega)))) | (refine IL.stepg (σ' := ?_) ttok (by first | exact .inl rfl | (refine Gok.mk2 (b := ?_) rfl ?_ ?_; rotate_left 1; (focus rfl); (focus (with_reducible rfl)))) (fun K hK => ?_) ?_; rotate_left 1; (focus (simp only [go_sem, reduceIte]; first | exact hK | (and_intros <;> first | exact hK | omega | assumption | rfl | decide)))) | (refine IL.no (σ' := ?_) (by first | (refine Gno.mkT (b := ?_) rfl ?_ ?_; rotate_left 1; (focus rfl); (focus (with_reducible rfl))) | (refine Gno.mkF (b := ?_) rfl ?_ ?_; rotate_left 1; (focus rfl); (focus (with_reducible rfl))) | exact Gno.mkU rfl rfl) (fun K hK => ?_) ?_; rotate_left 1; (focus (simp only [go_sem, reduceIte]; exact hK))) | ((first | ((first | (refine IL.askg (b := ?_) (d := ?_) ?_ ?_ (fun h => ?_) (fun h => ?_); rotate_left 2; (focus rfl); (focus rfl)) | (refine IL.askp (b := ?_) (d := ?_) ?_ ?_ (fun h => ?_) (fun h => ?_); rotate_left 2; (focus rfl); (focus rfl))); (fail_if_success (focus (simp only [reduceCtorEq] at h)))) | (refine WK.cond (b := ?_) ?_ (fun h => ?_) (fun h => ?_); rotate_left 1; (focus rfl))); all_goals first | (simp only [reduceCtorEq] at h; done) | (simp only [Bool.and_eq_true, Bool.and_eq_false_iff, Bool.or_eq_true, Bool.or_eq_false_iff, Bool.not_eq_true', Bool.not_eq_false', beq_iff_eq, beq_eq_false_iff_ne, ne_eq, bne_iff_ne, bne_eq_false_iff_eq, decide_eq_true_eq, decide_eq_false_iff_not, Decidable.not_not] at h; first | done | (exfalso; omega; done) | skip) | skip))
      all_goals try ((first | refine WK.ret ⟨.inr rfl, Fin.of (q' := ?_) (A2 := ?_) (k1 := ?_) (k2 := ?_) ?_ ?_ ?_ ?_ ?_⟩ | refine ⟨.inl rfl, Fin.of (q' := ?_) (A2 := ?_) (k1 := ?_) (k2 := ?_) ?_ ?_ ?_ ?_ ?_⟩ | refine ⟨.inl trivial, Fin.of (q' := ?_) (A2 := ?_) (k1 := ?_) (k2 := ?_) ?_ ?_ ?_ ?_ ?_⟩); rotate_left 4; (focus (first | rfl | (simp only [go_sem, show Tryd.f86.results.toList = [.tmp 4] from rfl, reduceIte] <;> rfl))); (focus (first | rfl | (simp only [go_sem, reduceIte] <;> rfl))); (focus rfl); rotate_left 1; (focus (first | rfl | skip)); all_goals try with_reducible rfl)
      all_goals skip
theorem most_call (a1 a2 x1 x2 y1 y2 m1 m2 r1 r2 : Nat) (h1 : fmax a1 x1 = some m1) (h2 : fmax a2 x2 = some m2) (h3 : fmax m1 y1 = some r1) (h4 : fmax m2 y2 = some r2) : SCall Tryd.prog 87 [.v (.complex .f64 a1 a2), .tr 2 [.v (.complex .f64 x1 x2), .v (.complex .f64 y1 y2)]] (.v (.complex .f64 r1 r2)) [.v (.complex .f64 a1 a2), .tr 2 [.v (.complex .f64 x1 x2), .v (.complex .f64 y1 y2)]] := by
  have hne : [IV.v (.complex .f64 x1 x2), .v (.complex .f64 y1 y2)] ≠ [] := by simp
  refine SCall.of_body' (TT := TT) (fun _ => false) [false, false] ttok Tryd.func87 rfl (Nat.le_of_ble_eq_true rfl) rfl fun fx hfx => WK.top ?_
  simp only [impl, imp, argT, List.append_nil, List.map_nil, List.nil_append, show Tryd.f87.ntmps = 26 from rfl, Nat.zero_add, Nat.reduceAdd]
  repeat' (first | refine WK.seq ?_ | refine WK.reg ?_ | refine IL.nil ?_ | refine WK.skip ?_ | refine WK.block ?_ | refine WK.exit_here ?_ | refine WK.exit_out1 (by decide) ?_ | refine WK.exit_out2 (by decide) (by decide) ?_ | (with_reducible refine IL.wr ?_ ?_; (focus (first | exact wrap_i64 (by omega) (by omega) | exact wrap_u64 (by omega) (by omega) | exact wrap_u32 (by omega) (by omega) | exact wrap_u16 (by omega) (by omega) | exact wrap_u8 (by omega) (by omega)))) | (refine IL.stepg (σ' := ?_) ttok (by first | exact .inl rfl | (refine Gok.mk2 (b := ?_) rfl ?_ ?_; rotate_left 1; (focus rfl); (focus (with_reducible rfl)))) (fun K hK => ?_) ?_; rotate_left 1; (focus (simp only [go_sem, reduceIte]; first | exact hK | (and_intros <;> first | exact hK | omega | assumption | rfl | decide)))) | (refine IL.no (σ' := ?_) (by first | (refine Gno.mkT (b := ?_) rfl ?_ ?_; rotate_left 1; (focus rfl); (focus (with_reducible rfl))) | (refine Gno.mkF (b := ?_) rfl ?_ ?_; rotate_left 1; (focus rfl); (focus (with_reducible rfl))) | exact Gno.mkU rfl rfl) (fun K hK => ?_) ?_; rotate_left 1; (focus (simp only [go_sem, reduceIte]; exact hK))) | ((first | ((first | (refine IL.askg (b := ?_) (d := ?_) ?_ ?_ (fun h => ?_) (fun h => ?_); rotate_left 2; (focus rfl); (focus rfl)) | (refine IL.askp (b := ?_) (d := ?_) ?_ ?_ (fun h => ?_) (fun h => ?_); rotate_left 2; (focus rfl); (focus rfl))); (fail_if_success (focus (simp only [reduceCtorEq] at h)))) | (refine WK.cond (b := ?_) ?_ (fun h => ?_) (fun h => ?_); rotate_left 1; (focus rfl))); all_goals first | (simp only [reduceCtorEq] at h; done) | (simp only [Bool.and_eq_true, Bool.and_eq_false_iff, Bool.or_eq_true, Bool.or_eq_false_iff, Bool.not_eq_true', Bool.not_eq_false', beq_iff_eq, beq_eq_false_iff_ne, ne_eq, bne_iff_ne, bne_eq_false_iff_eq, decide_eq_true_eq, decide_eq_false_iff_not, Decidable.not_not] at h; first | done | (exfalso; omega; done) | skip) | skip))
  refine WK.whileS (α := Nat × Nat × Nat) (fun x => 2 - x.1) (fun x => x = (0, a1, a2) ∨ x = (1, m1, m2) ∨ x = (2, r1, r2)) (fun x => ⟨26, [(0, .v (.complex .f64 x.2.1 x.2.2)), (7, .tr 2 [.v (.complex .f64 x1 x2), .v (.complex .f64 y1 y2)]), (8, .v (.int .i64 2)), (9, .v (.int .i64 x.1))], []⟩) (0, a1, a2) ⟨.inl rfl, ?_⟩ ?_
  · (refine Weak.renS [] hfx rfl ?_ ?_ rfl <;> (simp only [go_sem, reduceIte, exists_eq_left', exists_eq_left, Blk.mk.injEq] <;> (try and_intros) <;> first | rfl | omega))
  · intro x hx
    rcases hx with rfl | rfl | rfl <;> simp only [Int.natCast_zero, Int.natCast_one, Int.cast_ofNat_Int]
    · repeat' (first | refine WK.seq ?_ | refine WK.reg ?_ | refine IL.nil ?_ | refine WK.skip ?_ | refine WK.block ?_ | refine WK.exit_here ?_ | refine WK.exit_out1 (by decide) ?_ | refine WK.exit_out2 (by decide) (by decide) ?_ | (with_reducible refine IL.wr ?_ ?_; (focus (first | exact wrap_i64 (by omega) (by omega) | exact wrap_u64 (by omega) (by omega) | exact wrap_u32 (by omega) (by omega) | exact wrap_u16 (by omega) (by omega) | exact wrap_u8 (by omega) (by omega)))) | (refine IL.stepg (σ' := ?_) ttok (by first | exact .inl rfl | (refine Gok.mk2 (b := ?_) rfl ?_ ?_; rotate_left 1; (focus rfl); (focus (with_reducible rfl)))) (fun K hK => ?_) ?_; rotate_left 1; (focus (simp only [go_sem, reduceIte, h1, h2]; first | exact hK | (and_intros <;> first | exact hK | omega | assumption | rfl | decide)))) | (refine IL.no (σ' := ?_) (by first | (refine Gno.mkT (b := ?_) rfl ?_ ?_; rotate_left 1; (focus rfl); (focus (with_reducible rfl))) | (refine Gno.mkF (b := ?_) rfl ?_ ?_; rotate_left 1; (focus rfl); (focus (with_reducible rfl))) | exact Gno.mkU rfl rfl) (fun K hK => ?_) ?_; rotate_left 1; (focus (simp only [go_sem, reduceIte]; exact hK))) | ((first | ((first | (refine IL.askg (b := ?_) (d := ?_) ?_ ?_ (fun h => ?_) (fun h => ?_); rotate_left 2; (focus rfl); (focus rfl)) | (refine IL.askp (b := ?_) (d := ?_) ?_ ?_ (fun h => ?_) (fun h => ?_); rotate_left 2; (focus rfl); (focus rfl))); (fail_if_success (focus (simp only [reduceCtorEq] at h)))) | (refine WK.cond (b := ?_) ?_ (fun h => ?_) (fun h => ?_); rotate_left 1; (focus rfl))); all_goals first | (simp only [reduceCtorEq] at h; done) | (simp only [Bool.and_eq_true, Bool.and_eq_false_iff, Bool.or_eq_true, Bool.or_eq_false_iff, Bool.not_eq_true', Bool.not_eq_false', beq_iff_eq, beq_eq_false_iff_ne, ne_eq, bne_iff_ne, bne_eq_false_iff_eq, decide_eq_true_eq, decide_eq_false_iff_not, Decidable.not_not] at h; first | done | (exfalso; omega; done) | skip) | skip))
      refine ⟨(1, m1, m2), by simp, .inr (.inl rfl), ?_⟩
      (refine Weak.renS [] hfx rfl ?_ ?_ rfl <;> (simp only [go_sem, reduceIte, exists_eq_left', exists_eq_left, Blk.mk.injEq] <;> (try and_intros) <;> first | rfl | omega))
    · repeat' (first | refine WK.seq ?_ | refine WK.reg ?_ | refine IL.nil ?_ | refine WK.skip ?_ | refine WK.block ?_ | refine WK.exit_here ?_ | refine WK.exit_out1 (by decide) ?_ | refine WK.exit_out2 (by decide) (by decide) ?_ | (with_reducible refine IL.wr ?_ ?_; (focus (first | exact wrap_i64 (by omega) (by omega) | exact wrap_u64 (by omega) (by omega) | exact wrap_u32 (by omega) (by omega) | exact wrap_u16 (by omega) (by omega) | exact wrap_u8 (by omega) (by omega)))) | (refine IL.stepg (σ' := ?_) ttok (by first | exact .inl rfl | (refine Gok.mk2 (b := ?_) rfl ?_ ?_; rotate_left 1; (focus rfl); (focus (with_reducible rfl)))) (fun K hK => ?_) ?_; rotate_left 1; (focus (simp only [go_sem, reduceIte, h3, h4]; first | exact hK | (and_intros <;> first | exact hK | omega | assumption | rfl | decide)))) | (refine IL.no (σ' := ?_) (by first | (refine Gno.mkT (b := ?_) rfl ?_ ?_; rotate_left 1; (focus rfl); (focus (with_reducible rfl))) | (refine Gno.mkF (b := ?_) rfl ?_ ?_; rotate_left 1; (focus rfl); (focus (with_reducible rfl))) | exact Gno.mkU rfl rfl) (fun K hK => ?_) ?_; rotate_left 1; (focus (simp only [go_sem, reduceIte]; exact hK))) | ((first | ((first | (refine IL.askg (b := ?_) (d := ?_) ?_ ?_ (fun h => ?_) (fun h => ?_); rotate_left 2; (focus rfl); (focus rfl)) | (refine IL.askp (b := ?_) (d := ?_) ?_ ?_ (fun h => ?_) (fun h => ?_); rotate_left 2; (focus rfl); (focus rfl))); (fail_if_success (focus (simp only [reduceCtorEq] at h)))) | (refine WK.cond (b := ?_) ?_ (fun h => ?_) (fun h => ?_); rotate_left 1; (focus rfl))); all_goals first | (simp only [reduceCtorEq] at h; done) | (simp only [Bool.and_eq_true, Bool.and_eq_false_iff, Bool.or_eq_true, Bool.or_eq_false_iff, Bool.not_eq_true', Bool.not_eq_false', beq_iff_eq, beq_eq_false_iff_ne, ne_eq, bne_iff_ne, bne_eq_false_iff_eq, decide_eq_true_eq, decide_eq_false_iff_not, Decidable.not_not] at h; first | done | (exfalso; omega; done) | skip) | skip))
      refine ⟨(2, r1, r2), by simp, .inr (.inr rfl), ?_⟩
      (refine Weak.renS [] hfx rfl ?_ ?_ rfl <;> (simp only [go_sem, reduceIte, exists_eq_left', exists_eq_left, Blk.mk.injEq] <;> (try and_intros) <;> first | rfl | omega))
    · repeat' (first | refine WK.seq ?_ | refine WK.reg ?_ | refine IL.nil ?_ | refine WK.skip ?_ | refine WK.block ?_ | refine WK.exit_here ?_ | refine WK.exit_out1 (by decide) ?_ | refine WK.exit_out2 (by decide) (by decide) ?_ | (with_reducible refine IL.wr ?_ ?_; (focus (first | exact wrap_i64 (by omega) (by omega) | exact wrap_u64 (by omega) (by omega) | exact wrap_u32 (by omega) (by omega) | exact wrap_u16 (by omega) (by omega) | exact wrap_u8 (by omega) (by omega)))) | (refine IL.stepg (σ' := ?_) ttok (by first | exact .inl rfl | (refine Gok.mk2 (b := ?_) rfl ?_ ?_; rotate_left 1; (focus rfl); (focus (with_reducible rfl)))) (fun K hK => ?_) ?_; rotate_left 1; (focus (simp only [go_sem, reduceIte]; first | exact hK | (and_intros <;> first | exact hK | omega | assumption | rfl | decide)))) | (refine IL.no (σ' := ?_) (by first | (refine Gno.mkT (b := ?_) rfl ?_ ?_; rotate_left 1; (focus rfl); (focus (with_reducible rfl))) | (refine Gno.mkF (b := ?_) rfl ?_ ?_; rotate_left 1; (focus rfl); (focus (with_reducible rfl))) | exact Gno.mkU rfl rfl) (fun K hK => ?_) ?_; rotate_left 1; (focus (simp only [go_sem, reduceIte]; exact hK))) | ((first | ((first | (refine IL.askg (b := ?_) (d := ?_) ?_ ?_ (fun h => ?_) (fun h => ?_); rotate_left 2; (focus rfl); (focus rfl)) | (refine IL.askp (b := ?_) (d := ?_) ?_ ?_ (fun h => ?_) (fun h => ?_); rotate_left 2; (focus rfl); (focus rfl))); (fail_if_success (focus (simp only [reduceCtorEq] at h)))) | (refine WK.cond (b := ?_) ?_ (fun h => ?_) (fun h => ?_); rotate_left 1; (focus rfl))); all_goals first | (simp only [reduceCtorEq] at h; done) | (simp only [Bool.and_eq_true, Bool.and_eq_false_iff, Bool.or_eq_true, Bool.or_eq_false_iff, Bool.not_eq_true', Bool.not_eq_false', beq_iff_eq, beq_eq_false_iff_ne, ne_eq, bne_iff_ne, bne_eq_false_iff_eq, decide_eq_true_eq, decide_eq_false_iff_not, Decidable.not_not] at h; first | done | (exfalso; omega; done) | skip) | skip))
      all_goals try ((first | refine WK.ret ⟨.inr rfl, Fin.of (q' := ?_) (A2 := ?_) (k1 := ?_) (k2 := ?_) ?_ ?_ ?_ ?_ ?_⟩ | refine ⟨.inl rfl, Fin.of (q' := ?_) (A2 := ?_) (k1 := ?_) (k2 := ?_) ?_ ?_ ?_ ?_ ?_⟩ | refine ⟨.inl trivial, Fin.of (q' := ?_) (A2 := ?_) (k1 := ?_) (k2 := ?_) ?_ ?_ ?_ ?_ ?_⟩); rotate_left 4; (focus (first | rfl | (simp only [go_sem, show Tryd.f87.results.toList = [.tmp 4] from rfl, reduceIte] <;> rfl))); (focus (first | rfl | (simp only [go_sem, reduceIte] <;> rfl))); (focus rfl); rotate_left 1; (focus (first | rfl | skip)); all_goals try with_reducible rfl)
      all_goals skip
theorem cross_call (a1 a2 b1 b2 : Nat) (z y : GI) (ha : CZ (a1, a2) z) (hb : CZ (b1, b2) y) (hz : Bd z 4194304) (hy : Bd y 4194304) : SCall Tryd.prog 88 [.v (.complex .f64 a1 a2), .v (.complex .f64 b1 b2)] (.v (.int .i64 (cross z y))) [.v (.complex .f64 a1 a2), .v (.complex .f64 b1 b2)] := by
  obtain ⟨z1, z2⟩ := z
  obtain ⟨y1, y2⟩ := y
  obtain ⟨p1, p2, p3, p4⟩ := hz
  obtain ⟨q1, q2, q3, q4⟩ := hy
  simp only at p1 p2 p3 p4 q1 q2 q3 q4
  have n1 : (z1 * y2).natAbs ≤ 17592186044416 := natAbs_mul_le p1 p2 q3 q4
  have n2 : (z2 * y1).natAbs ≤ 17592186044416 := natAbs_mul_le p3 p4 q1 q2
  obtain ⟨u, h1, u2⟩ := ha.1.mul hb.2 (by simp only; omega)
  obtain ⟨v, h2, v2⟩ := ha.2.mul hb.1 (by simp only; omega)
  simp only at u2 v2
  obtain ⟨w, h3, w2⟩ := u2.sub v2 (by omega)
  have h4 := w2.toInt (by omega) (by omega)
  simp only at h1 h2
  unfold cross
  refine SCall.of_body' (TT := TT) (fun _ => false) [false, false] ttok Tryd.func88 rfl (Nat.le_of_ble_eq_true rfl) rfl fun fx hfx => WK.top ?_
  simp only [impl, imp, argT, List.append_nil, List.map_nil, List.nil_append, show Tryd.f88.ntmps = 17 from rfl, Nat.zero_add, Nat.reduceAdd]
  repeat' (first | refine WK.seq ?_ | refine WK.reg ?_ | refine IL.nil ?_ | refine WK.skip ?_ | refine WK.block ?_ | refine WK.exit_here ?_ | refine WK.exit_out1 (by decide) ?_ | refine WK.exit_out2 (by decide) (by decide) ?_ | (with_reducible refine IL.wr ?_ ?_; (focus (first | exact wrap_i64 (by omega) (by omega) | exact wrap_u64 (by omega) (by omega) | exact wrap_u32 (by omega) (by omega) | exact wrap_u16 (by omega) (by omega) | exact wrap_u8 (by omega) (by omega)))) | (refine IL.stepg (σ' := ?_) ttok (by first | exact .inl rfl | (refine Gok.mk2 (b := ?_) rfl ?_ ?_; rotate_left 1; (focus rfl); (focus (with_reducible rfl)))) (fun K hK => ?_) ?_; rotate_left 1; (focus (simp only [go_sem, reduceIte, h1, h2, h3, h4]; first | exact hK | (and_intros <;> first | exact hK | omega | assumption | rfl | decide)))) | (refine IL.no (σ' := ?_) (by first | (refine Gno.mkT (b := ?_) rfl ?_ ?_; rotate_left 1; (focus rfl); (focus (with_reducible rfl))) | (refine Gno.mkF (b := ?_) rfl ?_ ?_; rotate_left 1; (focus rfl); (focus (with_reducible rfl))) | exact Gno.mkU rfl rfl) (fun K hK => ?_) ?_; rotate_left 1; (focus (simp only [go_sem, reduceIte]; exact hK))) | ((first | ((first | (refine IL.askg (b := ?_) (d := ?_) ?_ ?_ (fun h => ?_) (fun h => ?_); rotate_left 2; (focus rfl); (focus rfl)) | (refine IL.askp (b := ?_) (d := ?_) ?_ ?_ (fun h => ?_) (fun h => ?_); rotate_left 2; (focus rfl); (focus rfl))); (fail_if_success (focus (simp only [reduceCtorEq] at h)))) | (refine WK.cond (b := ?_) ?_ (fun h => ?_) (fun h => ?_); rotate_left 1; (focus rfl))); all_goals first | (simp only [reduceCtorEq] at h; done) | (simp only [Bool.and_eq_true, Bool.and_eq_false_iff, Bool.or_eq_true, Bool.or_eq_false_iff, Bool.not_eq_true', Bool.not_eq_false', beq_iff_eq, beq_eq_false_iff_ne, ne_eq, bne_iff_ne, bne_eq_false_iff_eq, decide_eq_true_eq, decide_eq_false_iff_not, Decidable.not_not] at h; first | done | (exfalso; omega; done) | skip) | skip))
  all_goals try ((first | refine WK.ret ⟨.inr rfl, Fin.of (q' := ?_) (A2 := ?_) (k1 := ?_) (k2 := ?_) ?_ ?_ ?_ ?_ ?_⟩ | refine ⟨.inl rfl, Fin.of (q' := ?_) (A2 := ?_) (k1 := ?_) (k2 := ?_) ?_ ?_ ?_ ?_ ?_⟩ | refine ⟨.inl trivial, Fin.of (q' := ?_) (A2 := ?_) (k1 := ?_) (k2 := ?_) ?_ ?_ ?_ ?_ ?_⟩); rotate_left 4; (focus (first | rfl | (simp only [go_sem, show Tryd.f88.results.toList = [.tmp 4] from rfl, reduceIte] <;> rfl))); (focus (first | rfl | (simp only [go_sem, reduceIte] <;> rfl))); (focus rfl); rotate_left 1; (focus (first | rfl | skip)); all_goals try with_reducible rfl)
  all_goals skip
structure TB where
  e : CB
  w : CB
  lo : CB
  hi : CB
  area : Int
  steps : Int
def tC (t : TB) : List IV := [.v (.complex .f64 t.e.1 t.e.2), .v (.complex .f64 t.w.1 t.w.2), .v (.complex .f64 t.lo.1 t.lo.2), .v (.complex .f64 t.hi.1 t.hi.2), .v (.int .i64 t.area), .v (.int .i64 t.steps)]
theorem tC_length (t : TB) : (tC t).length = 6 := rfl
instance : Cells tC 6 := ⟨tC_length, fun _ => rfl, fun _ => rfl⟩
def CT (t : TB) (x : TI') : Prop := CZ t.e x.e ∧ CZ t.w x.w ∧ CZ t.lo x.lo ∧ CZ t.hi x.hi ∧ t.area = x.area ∧ t.steps = x.steps
def OkI (x : TI') : Prop := RightT x ∧ BdT x 2097152 ∧ (-1152921504606846976 ≤ x.area ∧ x.area ≤ 1152921504606846976) ∧ (0 ≤ x.steps ∧ x.steps ≤ 1099511627776)
/-- what comes of a way and one behind it -/
def thenTB (t o : TB) (c : Int) : TB :=
  ⟨caddB t.e (cmulB t.w o.e), cmulB t.w o.w, leastB (leastB t.lo (caddB t.e (cmulB t.w o.lo))) (caddB t.e (cmulB t.w o.hi)), mostB (mostB t.hi (caddB t.e (cmulB t.w o.lo))) (caddB t.e (cmulB t.w o.hi)), t.area + c + o.area, t.steps + o.steps⟩
/-- all that is reckoned on the way -/
structure ThenOk (t o : TB) (x y : TI') : Prop where
  m1 : cMulBits t.w.1 t.w.2 o.lo.1 o.lo.2 = some (cmulB t.w o.lo)
  m2 : cMulBits t.w.1 t.w.2 o.hi.1 o.hi.2 = some (cmulB t.w o.hi)
  m3 : cMulBits t.w.1 t.w.2 o.e.1 o.e.2 = some (cmulB t.w o.e)
  m4 : cMulBits t.w.1 t.w.2 o.w.1 o.w.2 = some (cmulB t.w o.w)
  a1 : cSumBits .add .f64 t.e.1 t.e.2 (cmulB t.w o.lo).1 (cmulB t.w o.lo).2 = some (caddB t.e (cmulB t.w o.lo))
  a2 : cSumBits .add .f64 t.e.1 t.e.2 (cmulB t.w o.hi).1 (cmulB t.w o.hi).2 = some (caddB t.e (cmulB t.w o.hi))
  a3 : cSumBits .add .f64 t.e.1 t.e.2 (cmulB t.w o.e).1 (cmulB t.w o.e).2 = some (caddB t.e (cmulB t.w o.e))
  l1 : fmin t.lo.1 (caddB t.e (cmulB t.w o.lo)).1 = some (leastB t.lo (caddB t.e (cmulB t.w o.lo))).1 ∧ fmin t.lo.2 (caddB t.e (cmulB t.w o.lo)).2 = some (leastB t.lo (caddB t.e (cmulB t.w o.lo))).2
  l2 : fmin (leastB t.lo (caddB t.e (cmulB t.w o.lo))).1 (caddB t.e (cmulB t.w o.hi)).1 = some (thenTB t o 0).lo.1 ∧ fmin (leastB t.lo (caddB t.e (cmulB t.w o.lo))).2 (caddB t.e (cmulB t.w o.hi)).2 = some (thenTB t o 0).lo.2
  g1 : fmax t.hi.1 (caddB t.e (cmulB t.w o.lo)).1 = some (mostB t.hi (caddB t.e (cmulB t.w o.lo))).1 ∧ fmax t.hi.2 (caddB t.e (cmulB t.w o.lo)).2 = some (mostB t.hi (caddB t.e (cmulB t.w o.lo))).2
  g2 : fmax (mostB t.hi (caddB t.e (cmulB t.w o.lo))).1 (caddB t.e (cmulB t.w o.hi)).1 = some (thenTB t o 0).hi.1 ∧ fmax (mostB t.hi (caddB t.e (cmulB t.w o.lo))).2 (caddB t.e (cmulB t.w o.hi)).2 = some (thenTB t o 0).hi.2
  ce : CZ (caddB t.e (cmulB t.w o.e)) (thenT x y).e
  be : Bd (thenT x y).e 4194304
  ct : CT (thenTB t o (cross x.e (thenT x y).e)) (thenT x y)
  ac : -70368744177664 ≤ cross x.e (thenT x y).e ∧ cross x.e (thenT x y).e ≤ 70368744177664
theorem thenOk {t o : TB} {x y : TI'} (ht : CT t x) (ho : CT o y) (hx : OkI x) (hy : OkI y) : ThenOk t o x y := by
  obtain ⟨t1, t2, t3, t4, t5, t6⟩ := ht
  obtain ⟨o1, o2, o3, o4, o5, o6⟩ := ho
  obtain ⟨hr, ⟨b1, b2, b3⟩, _⟩ := hx
  obtain ⟨hs, ⟨c1, c2, c3⟩, _⟩ := hy
  obtain ⟨m1, n1⟩ := t2.mul o3 hr.1.bd c2 (by decide)
  obtain ⟨m2, n2⟩ := t2.mul o4 hr.1.bd c3 (by decide)
  obtain ⟨m3, n3⟩ := t2.mul o1 hr.1.bd c1 (by decide)
  obtain ⟨m4, n4⟩ := t2.mul o2 hr.1.bd hs.1.bd (by decide)
  obtain ⟨a1, d1⟩ := t1.add n1 (b1.add (c2.turn hr.1)) (by decide)
  obtain ⟨a2, d2⟩ := t1.add n2 (b1.add (c3.turn hr.1)) (by decide)
  obtain ⟨a3, d3⟩ := t1.add n3 (b1.add (c1.turn hr.1)) (by decide)
  obtain ⟨l1, l2, l3⟩ := leastB_CZ t3 d1
  obtain ⟨l4, l5, l6⟩ := leastB_CZ l3 d2
  obtain ⟨g1, g2, g3⟩ := mostB_CZ t4 d1
  obtain ⟨g4, g5, g6⟩ := mostB_CZ g3 d2
  have be : Bd (thenT x y).e 4194304 := b1.add (c1.turn hr.1)
  refine ⟨m1, m2, m3, m4, a1, a2, a3, ⟨l1, l2⟩, ⟨l4, l5⟩, ⟨g1, g2⟩, ⟨g4, g5⟩, d3, be, ⟨d3, n4, l6, g6, ?_, ?_⟩, ?_⟩
  · show t.area + _ + o.area = x.area + _ + y.area
    rw [t5, o5]; rfl
  · show t.steps + o.steps = x.steps + y.steps
    rw [t6, o6]
  · obtain ⟨p1, p2, p3, p4⟩ := b1.mono (show (2097152 : Int) ≤ 4194304 by decide)
    obtain ⟨q1, q2, q3, q4⟩ := be
    have n1 : (x.e.1 * (thenT x y).e.2).natAbs ≤ 17592186044416 := natAbs_mul_le p1 p2 q3 q4
    have n2 : (x.e.2 * (thenT x y).e.1).natAbs ≤ 17592186044416 := natAbs_mul_le p3 p4 q1 q2
    unfold cross
    omega
end Go.Proofs.YtnfcjdgmhbhecaaDoor
