/- package pack: its reader and its writer. -/
import Derived.Test.YtolbmgkoifchfaaDoorLX6TT
namespace Go.Proofs.YtolbmgkoifchfaaDoor
open Go Go.Lift
set_option maxHeartbeats 4000000
set_option linter.unusedSimpArgs false
set_option linter.unusedVariables false
attribute [local irreducible] WK IL IP IG IW DW

/-- a reader: bytes, where it stands, its error -/
abbrev rdO (l : List UInt8) (p : Nat) (e : Int) : IV := .obj [.v (.string ⟨l.toArray⟩), .v (.int .i64 (p : Int)), .v (.int .i64 e)]
theorem error_call (l : List UInt8) (p : Nat) (e : Int) : SCall Tryd.prog 11 [rdO l p e] (.v (.int .i64 e)) [rdO l p e] := by
  refine SCall.of_body' (TT := TT) (fun k => decide (k < 1)) [false] ttok Tryd.func11 rfl (Nat.le_of_ble_eq_true rfl) rfl fun fx hfx => WK.top ?_
  simp only [impl, imp, argT, List.append_nil, List.map_nil, List.map_cons, List.nil_append, List.cons_append, List.length_cons, List.length_nil, show Tryd.f11.ntmps = 7 from rfl, Nat.zero_add, Nat.reduceAdd]
  repeat' (first
    | refine WK.seq ?_
    | refine WK.reg ?_
    | refine IL.nil ?_
    | refine WK.skip ?_
    | refine WK.block ?_
    | refine WK.exit_here ?_
    | refine WK.exit_out1 (by decide) ?_
    | refine WK.exit_out2 (by decide) (by decide) ?_
    | (with_reducible refine IL.wr ?_ ?_; (focus (first | exact wrap_i64 (by omega) (by omega) | exact wrap_u64 (by omega) (by omega) | exact wrap_u32 (by omega) (by omega) | exact wrap_u16 (by omega) (by omega) | exact wrap_u8 (by omega) (by omega))))
    | (refine IL.stepg (σ' := ?_) ttok (by first | exact .inl rfl | (refine Gok.mk2 (b := ?_) rfl ?_ ?_; rotate_left 1; (focus rfl); (focus (with_reducible rfl)))) (fun K hK => ?_) ?_; rotate_left 1; (focus (simp only [go_sem, reduceIte]; first | exact hK | (and_intros <;> first | exact hK | omega | assumption | rfl | decide))))
    | (refine IL.no (σ' := ?_) (by first | (refine Gno.mkT (b := ?_) rfl ?_ ?_; rotate_left 1; (focus rfl); (focus (with_reducible rfl))) | (refine Gno.mkF (b := ?_) rfl ?_ ?_; rotate_left 1; (focus rfl); (focus (with_reducible rfl))) | exact Gno.mkU rfl rfl) (fun K hK => ?_) ?_; rotate_left 1; (focus (simp only [go_sem, reduceIte]; exact hK)))
    | ((first | (refine IL.askg (b := ?_) (d := ?_) ?_ ?_ (fun h => ?_) (fun h => ?_); rotate_left 2; (focus rfl); (focus rfl)) | (refine IL.askp (b := ?_) (d := ?_) ?_ ?_ (fun h => ?_) (fun h => ?_); rotate_left 2; (focus rfl); (focus rfl))); (fail_if_success (focus (simp only [reduceCtorEq] at h))); all_goals first | (simp only [Bool.and_eq_true, Bool.and_eq_false_iff, Bool.or_eq_true, Bool.or_eq_false_iff, Bool.not_eq_true', Bool.not_eq_false', beq_iff_eq, beq_eq_false_iff_ne, ne_eq, bne_iff_ne, bne_eq_false_iff_eq, decide_eq_true_eq, decide_eq_false_iff_not, Decidable.not_not] at h; first | done | (exfalso; omega; done) | skip) | skip)
    | (refine WK.cond (b := ?_) ?_ (fun h => ?_) (fun h => ?_); rotate_left 1; (focus rfl); all_goals first | (simp only [reduceCtorEq] at h; done) | (simp only [Bool.and_eq_true, Bool.and_eq_false_iff, Bool.or_eq_true, Bool.or_eq_false_iff, Bool.not_eq_true', Bool.not_eq_false', beq_iff_eq, beq_eq_false_iff_ne, ne_eq, bne_iff_ne, bne_eq_false_iff_eq, decide_eq_true_eq, decide_eq_false_iff_not, Decidable.not_not] at h; first | done | (exfalso; omega; done) | skip) | skip))
  all_goals try ((first | refine WK.ret ⟨.inr rfl, Fin.of (q' := ?_) (A2 := ?_) (k1 := ?_) (k2 := ?_) ?_ ?_ ?_ ?_ ?_⟩ | refine ⟨.inl rfl, Fin.of (q' := ?_) (A2 := ?_) (k1 := ?_) (k2 := ?_) ?_ ?_ ?_ ?_ ?_⟩ | refine ⟨.inl trivial, Fin.of (q' := ?_) (A2 := ?_) (k1 := ?_) (k2 := ?_) ?_ ?_ ?_ ?_ ?_⟩); rotate_left 4; (focus (first | rfl | (simp only [go_sem, show Tryd.f11.results.toList = [.tmp 2] from rfl, reduceIte] <;> rfl))); (focus (first | rfl | (simp only [go_sem, reduceIte] <;> rfl))); (focus rfl); rotate_left 1; (focus (first | rfl | skip)); all_goals try with_reducible rfl)
theorem at_call (l : List UInt8) (p : Nat) (e : Int) : SCall Tryd.prog 12 [rdO l p e] (.v (.int .i64 p)) [rdO l p e] := by
  refine SCall.of_body' (TT := TT) (fun k => decide (k < 1)) [false] ttok Tryd.func12 rfl (Nat.le_of_ble_eq_true rfl) rfl fun fx hfx => WK.top ?_
  simp only [impl, imp, argT, List.append_nil, List.map_nil, List.map_cons, List.nil_append, List.cons_append, List.length_cons, List.length_nil, show Tryd.f12.ntmps = 7 from rfl, Nat.zero_add, Nat.reduceAdd]
  repeat' (first
    | refine WK.seq ?_
    | refine WK.reg ?_
    | refine IL.nil ?_
    | refine WK.skip ?_
    | refine WK.block ?_
    | refine WK.exit_here ?_
    | refine WK.exit_out1 (by decide) ?_
    | refine WK.exit_out2 (by decide) (by decide) ?_
    | (with_reducible refine IL.wr ?_ ?_; (focus (first | exact wrap_i64 (by omega) (by omega) | exact wrap_u64 (by omega) (by omega) | exact wrap_u32 (by omega) (by omega) | exact wrap_u16 (by omega) (by omega) | exact wrap_u8 (by omega) (by omega))))
    | (refine IL.stepg (σ' := ?_) ttok (by first | exact .inl rfl | (refine Gok.mk2 (b := ?_) rfl ?_ ?_; rotate_left 1; (focus rfl); (focus (with_reducible rfl)))) (fun K hK => ?_) ?_; rotate_left 1; (focus (simp only [go_sem, reduceIte]; first | exact hK | (and_intros <;> first | exact hK | omega | assumption | rfl | decide))))
    | (refine IL.no (σ' := ?_) (by first | (refine Gno.mkT (b := ?_) rfl ?_ ?_; rotate_left 1; (focus rfl); (focus (with_reducible rfl))) | (refine Gno.mkF (b := ?_) rfl ?_ ?_; rotate_left 1; (focus rfl); (focus (with_reducible rfl))) | exact Gno.mkU rfl rfl) (fun K hK => ?_) ?_; rotate_left 1; (focus (simp only [go_sem, reduceIte]; exact hK)))
    | ((first | (refine IL.askg (b := ?_) (d := ?_) ?_ ?_ (fun h => ?_) (fun h => ?_); rotate_left 2; (focus rfl); (focus rfl)) | (refine IL.askp (b := ?_) (d := ?_) ?_ ?_ (fun h => ?_) (fun h => ?_); rotate_left 2; (focus rfl); (focus rfl))); (fail_if_success (focus (simp only [reduceCtorEq] at h))); all_goals first | (simp only [Bool.and_eq_true, Bool.and_eq_false_iff, Bool.or_eq_true, Bool.or_eq_false_iff, Bool.not_eq_true', Bool.not_eq_false', beq_iff_eq, beq_eq_false_iff_ne, ne_eq, bne_iff_ne, bne_eq_false_iff_eq, decide_eq_true_eq, decide_eq_false_iff_not, Decidable.not_not] at h; first | done | (exfalso; omega; done) | skip) | skip)
    | (refine WK.cond (b := ?_) ?_ (fun h => ?_) (fun h => ?_); rotate_left 1; (focus rfl); all_goals first | (simp only [reduceCtorEq] at h; done) | (simp only [Bool.and_eq_true, Bool.and_eq_false_iff, Bool.or_eq_true, Bool.or_eq_false_iff, Bool.not_eq_true', Bool.not_eq_false', beq_iff_eq, beq_eq_false_iff_ne, ne_eq, bne_iff_ne, bne_eq_false_iff_eq, decide_eq_true_eq, decide_eq_false_iff_not, Decidable.not_not] at h; first | done | (exfalso; omega; done) | skip) | skip))
  all_goals try ((first | refine WK.ret ⟨.inr rfl, Fin.of (q' := ?_) (A2 := ?_) (k1 := ?_) (k2 := ?_) ?_ ?_ ?_ ?_ ?_⟩ | refine ⟨.inl rfl, Fin.of (q' := ?_) (A2 := ?_) (k1 := ?_) (k2 := ?_) ?_ ?_ ?_ ?_ ?_⟩ | refine ⟨.inl trivial, Fin.of (q' := ?_) (A2 := ?_) (k1 := ?_) (k2 := ?_) ?_ ?_ ?_ ?_ ?_⟩); rotate_left 4; (focus (first | rfl | (simp only [go_sem, show Tryd.f12.results.toList = [.tmp 2] from rfl, reduceIte] <;> rfl))); (focus (first | rfl | (simp only [go_sem, reduceIte] <;> rfl))); (focus rfl); rotate_left 1; (focus (first | rfl | skip)); all_goals try with_reducible rfl)
theorem left_call (l : List UInt8) (p : Nat) (e : Int) (hp : p ≤ l.length) (hl : l.length < 2 ^ 62) : SCall Tryd.prog 32 [rdO l p e] (.v (.int .i64 ((l.length : Int) - p))) [rdO l p e] := by
  refine SCall.of_body' (TT := TT) (fun k => decide (k < 1)) [false] ttok Tryd.func32 rfl (Nat.le_of_ble_eq_true rfl) rfl fun fx hfx => WK.top ?_
  simp only [impl, imp, argT, List.append_nil, List.map_nil, List.map_cons, List.nil_append, List.cons_append, List.length_cons, List.length_nil, show Tryd.f32.ntmps = 13 from rfl, Nat.zero_add, Nat.reduceAdd]
  repeat' (first
    | refine WK.seq ?_
    | refine WK.reg ?_
    | refine IL.nil ?_
    | refine WK.skip ?_
    | refine WK.block ?_
    | refine WK.exit_here ?_
    | refine WK.exit_out1 (by decide) ?_
    | refine WK.exit_out2 (by decide) (by decide) ?_
    | refine WK.drawnS (id := 1) mixed [] [] [] [] (by decide +kernel) ?_
    | refine DW.nil ?_
    | (with_reducible refine IL.wr ?_ ?_; (focus (first | exact wrap_i64 (by omega) (by omega) | exact wrap_u64 (by omega) (by omega) | exact wrap_u32 (by omega) (by omega) | exact wrap_u16 (by omega) (by omega) | exact wrap_u8 (by omega) (by omega))))
    | (with_reducible refine DW.wr ?_ ?_; (focus (first | exact wrap_i64 (by omega) (by omega) | exact wrap_u64 (by omega) (by omega) | exact wrap_u32 (by omega) (by omega) | exact wrap_u16 (by omega) (by omega) | exact wrap_u8 (by omega) (by omega))))
    | (refine IL.stepg (σ' := ?_) ttok (by first | exact .inl rfl | (refine Gok.mk2 (b := ?_) rfl ?_ ?_; rotate_left 1; (focus rfl); (focus (with_reducible rfl)))) (fun K hK => ?_) ?_; rotate_left 1; (focus (simp only [go_sem, reduceIte]; first | exact hK | (and_intros <;> first | exact hK | omega | assumption | rfl | decide))))
    | (refine IL.no (σ' := ?_) (by first | (refine Gno.mkT (b := ?_) rfl ?_ ?_; rotate_left 1; (focus rfl); (focus (with_reducible rfl))) | (refine Gno.mkF (b := ?_) rfl ?_ ?_; rotate_left 1; (focus rfl); (focus (with_reducible rfl))) | exact Gno.mkU rfl rfl) (fun K hK => ?_) ?_; rotate_left 1; (focus (simp only [go_sem, reduceIte]; exact hK)))
    | (refine DW.rd (L := ?_) (T' := ?_) ttok rfl rfl (by decide) ?_ ?_ (fun K hK => ?_) ?_ ?_; rotate_left 2; (focus rfl); (focus (first | exact .inl rfl | (refine Gok.mk2 (b := ?_) rfl ?_ ?_; rotate_left 1; (focus rfl); (focus (with_reducible rfl))))); (focus (simp only [go_sem, reduceIte]; first | exact hK | (and_intros <;> first | exact hK | omega | assumption | rfl | decide))); (focus (first | exact ⟨_, rfl⟩ | rfl)))
    | (refine DW.rdm (L := ?_) (T' := ?_) ttok rfl rfl ?_ ?_ (fun K hK => ?_) ?_ ?_; rotate_left 2; (focus rfl); (focus (first | exact .inl rfl | (refine Gok.mk2 (b := ?_) rfl ?_ ?_; rotate_left 1; (focus rfl); (focus (with_reducible rfl))))); (focus (simp only [go_sem, reduceIte]; first | exact hK | (and_intros <;> first | exact hK | omega | assumption | rfl | decide))); (focus (first | exact ⟨_, rfl⟩ | rfl)))
    | (refine DW.bl (L' := ?_) (T' := ?_) ttok rfl ?_ (fun K hK => ?_) ?_ ?_ ?_; rotate_left 2; (focus (first | exact .inl rfl | (refine Gok.mk2 (b := ?_) rfl ?_ ?_; rotate_left 1; (focus rfl); (focus (with_reducible rfl))))); (focus (simp only [go_sem, reduceIte]; first | exact hK | (and_intros <;> first | exact hK | omega | assumption | rfl | decide))); (focus (first | exact ⟨_, rfl⟩ | rfl)); (focus (first | exact .inl rfl | exact .inr (LEX.refl _ _) | exact .inr (LE.app _ _).lex | exact .inr (LEX.of (by simp only [go_sem, List.contains_cons, List.contains_nil, Nat.reduceBEq, Bool.or_false, Bool.false_or, Nat.reduceAdd, true_or, false_or, true_and]; first | done | trivial | (and_intros <;> first | exact ⟨_, rfl⟩ | trivial))))))
    | (refine DW.no (L := ?_) (T' := ?_) ?_ rfl ?_ (fun K hK => ?_) ?_ ?_; rotate_left 2; (focus rfl); (focus (first | (refine Gno.mkT (b := ?_) rfl ?_ ?_; rotate_left 1; (focus rfl); (focus (with_reducible rfl))) | (refine Gno.mkF (b := ?_) rfl ?_ ?_; rotate_left 1; (focus rfl); (focus (with_reducible rfl))) | exact Gno.mkU rfl rfl)); (focus (simp only [go_sem, reduceIte]; exact hK)); (focus (first | exact ⟨_, rfl⟩ | rfl)))
    | (refine DW.nob (T' := ?_) rfl ?_ (fun K hK => ?_) ?_ ?_; rotate_left 1; (focus (first | (refine Gno.mkT (b := ?_) rfl ?_ ?_; rotate_left 1; (focus rfl); (focus (with_reducible rfl))) | (refine Gno.mkF (b := ?_) rfl ?_ ?_; rotate_left 1; (focus rfl); (focus (with_reducible rfl))) | exact Gno.mkU rfl rfl)); (focus (simp only [go_sem, reduceIte]; exact hK)); (focus (first | exact ⟨_, rfl⟩ | rfl)))
    | ((first | (refine IL.askg (b := ?_) (d := ?_) ?_ ?_ (fun h => ?_) (fun h => ?_); rotate_left 2; (focus rfl); (focus rfl)) | (refine DW.askg (b := ?_) (d := ?_) ?_ ?_ (fun h => ?_) (fun h => ?_); rotate_left 2; (focus rfl); (focus rfl)) | (refine IL.askp (b := ?_) (d := ?_) ?_ ?_ (fun h => ?_) (fun h => ?_); rotate_left 2; (focus rfl); (focus rfl)) | (refine DW.askp (b := ?_) (d := ?_) ?_ ?_ (fun h => ?_) (fun h => ?_); rotate_left 2; (focus rfl); (focus rfl))); (fail_if_success (focus (simp only [reduceCtorEq] at h))); all_goals first | (simp only [Bool.and_eq_true, Bool.and_eq_false_iff, Bool.or_eq_true, Bool.or_eq_false_iff, Bool.not_eq_true', Bool.not_eq_false', beq_iff_eq, beq_eq_false_iff_ne, ne_eq, bne_iff_ne, bne_eq_false_iff_eq, decide_eq_true_eq, decide_eq_false_iff_not, Decidable.not_not] at h; first | done | (exfalso; omega; done) | skip) | skip)
    | (refine WK.cond (b := ?_) ?_ (fun h => ?_) (fun h => ?_); rotate_left 1; (focus rfl); all_goals first | (simp only [reduceCtorEq] at h; done) | (simp only [Bool.and_eq_true, Bool.and_eq_false_iff, Bool.or_eq_true, Bool.or_eq_false_iff, Bool.not_eq_true', Bool.not_eq_false', beq_iff_eq, beq_eq_false_iff_ne, ne_eq, bne_iff_ne, bne_eq_false_iff_eq, decide_eq_true_eq, decide_eq_false_iff_not, Decidable.not_not] at h; first | done | (exfalso; omega; done) | skip) | skip))
  all_goals try ((first | refine WK.ret ⟨.inr rfl, Fin.of (q' := ?_) (A2 := ?_) (k1 := ?_) (k2 := ?_) ?_ ?_ ?_ ?_ ?_⟩ | refine ⟨.inl rfl, Fin.of (q' := ?_) (A2 := ?_) (k1 := ?_) (k2 := ?_) ?_ ?_ ?_ ?_ ?_⟩ | refine ⟨.inl trivial, Fin.of (q' := ?_) (A2 := ?_) (k1 := ?_) (k2 := ?_) ?_ ?_ ?_ ?_ ?_⟩); rotate_left 4; (focus (first | rfl | (simp only [go_sem, show Tryd.f32.results.toList = [.tmp 2] from rfl, reduceIte] <;> rfl))); (focus (first | rfl | (simp only [go_sem, reduceIte] <;> rfl))); (focus rfl); rotate_left 1; (focus (first | rfl | skip)); all_goals try with_reducible rfl)
theorem fail_call (l : List UInt8) (p : Nat) (e f : Int) : SCall Tryd.prog 36 [rdO l p e, .v (.int .i64 f)] (.v (.int .u64 0)) [rdO l p (if e = 0 then f else e), .v (.int .i64 f)] := by
  refine SCall.of_body' (TT := TT) (fun k => decide (k < 1)) [false, false] ttok Tryd.func36 rfl (Nat.le_of_ble_eq_true rfl) rfl fun fx hfx => WK.top ?_
  simp only [impl, imp, argT, List.append_nil, List.map_nil, List.map_cons, List.nil_append, List.cons_append, List.length_cons, List.length_nil, show Tryd.f36.ntmps = 14 from rfl, Nat.zero_add, Nat.reduceAdd]
  repeat' (first
    | refine WK.seq ?_
    | refine WK.reg ?_
    | refine IL.nil ?_
    | refine WK.skip ?_
    | refine WK.block ?_
    | refine WK.exit_here ?_
    | refine WK.exit_out1 (by decide) ?_
    | refine WK.exit_out2 (by decide) (by decide) ?_
    | (with_reducible refine IL.wr ?_ ?_; (focus (first | exact wrap_i64 (by omega) (by omega) | exact wrap_u64 (by omega) (by omega) | exact wrap_u32 (by omega) (by omega) | exact wrap_u16 (by omega) (by omega) | exact wrap_u8 (by omega) (by omega))))
    | (refine IL.stepg (σ' := ?_) ttok (by first | exact .inl rfl | (refine Gok.mk2 (b := ?_) rfl ?_ ?_; rotate_left 1; (focus rfl); (focus (with_reducible rfl)))) (fun K hK => ?_) ?_; rotate_left 1; (focus (simp only [go_sem, reduceIte]; first | exact hK | (and_intros <;> first | exact hK | omega | assumption | rfl | decide))))
    | (refine IL.no (σ' := ?_) (by first | (refine Gno.mkT (b := ?_) rfl ?_ ?_; rotate_left 1; (focus rfl); (focus (with_reducible rfl))) | (refine Gno.mkF (b := ?_) rfl ?_ ?_; rotate_left 1; (focus rfl); (focus (with_reducible rfl))) | exact Gno.mkU rfl rfl) (fun K hK => ?_) ?_; rotate_left 1; (focus (simp only [go_sem, reduceIte]; exact hK)))
    | ((first | (refine IL.askg (b := ?_) (d := ?_) ?_ ?_ (fun h => ?_) (fun h => ?_); rotate_left 2; (focus rfl); (focus rfl)) | (refine IL.askp (b := ?_) (d := ?_) ?_ ?_ (fun h => ?_) (fun h => ?_); rotate_left 2; (focus rfl); (focus rfl))); (fail_if_success (focus (simp only [reduceCtorEq] at h))); all_goals first | (simp only [Bool.and_eq_true, Bool.and_eq_false_iff, Bool.or_eq_true, Bool.or_eq_false_iff, Bool.not_eq_true', Bool.not_eq_false', beq_iff_eq, beq_eq_false_iff_ne, ne_eq, bne_iff_ne, bne_eq_false_iff_eq, decide_eq_true_eq, decide_eq_false_iff_not, Decidable.not_not] at h; first | done | (exfalso; omega; done) | skip) | skip)
    | (refine WK.cond (b := ?_) ?_ (fun h => ?_) (fun h => ?_); rotate_left 1; (focus rfl); all_goals first | (simp only [reduceCtorEq] at h; done) | (simp only [Bool.and_eq_true, Bool.and_eq_false_iff, Bool.or_eq_true, Bool.or_eq_false_iff, Bool.not_eq_true', Bool.not_eq_false', beq_iff_eq, beq_eq_false_iff_ne, ne_eq, bne_iff_ne, bne_eq_false_iff_eq, decide_eq_true_eq, decide_eq_false_iff_not, Decidable.not_not] at h; first | done | (exfalso; omega; done) | skip) | skip))
  all_goals try ((first | refine WK.ret ⟨.inr rfl, Fin.of (q' := ?_) (A2 := ?_) (k1 := ?_) (k2 := ?_) ?_ ?_ ?_ ?_ ?_⟩ | refine ⟨.inl rfl, Fin.of (q' := ?_) (A2 := ?_) (k1 := ?_) (k2 := ?_) ?_ ?_ ?_ ?_ ?_⟩ | refine ⟨.inl trivial, Fin.of (q' := ?_) (A2 := ?_) (k1 := ?_) (k2 := ?_) ?_ ?_ ?_ ?_ ?_⟩); rotate_left 4; (focus (first | rfl | (simp only [go_sem, show Tryd.f36.results.toList = [.tmp 4] from rfl, reduceIte] <;> rfl))); (focus (first | rfl | (simp only [go_sem, reduceIte] <;> rfl))); (focus rfl); rotate_left 1; (focus (first | rfl | skip)); all_goals try with_reducible rfl)
  all_goals first | (refine Weak.cut' rfl rfl ?_; (first | (simp only [go_sem, reduceIte] <;> (try and_intros) <;> first | rfl | omega | grind))) | (refine ⟨?_, ?_⟩; rotate_left 1; (focus (refine Weak.cut' rfl rfl ?_; (first | (simp only [go_sem, reduceIte] <;> (try and_intros) <;> first | rfl | omega | grind)))); grind) | grind
/-- a reader's byte: what it is, where the reader stands then, its error -/
def rByte (l : List UInt8) (p : Nat) (e : Int) : Nat × Nat × Int := if e = 0 then (if p = l.length then (0, p, 14) else ((l.getD p 0).toNat, p + 1, 0)) else (0, p, e)
theorem done_call (l : List UInt8) (p : Nat) (e : Int) (hp : p ≤ l.length) (hl : l.length < 2 ^ 62) : SCall Tryd.prog 18 [rdO l p e] (.v (.int .i64 (if e = 0 ∧ p < l.length then 15 else e))) [rdO l p e] := by
  refine SCall.of_body' (TT := TT) (fun k => decide (k < 1)) [false] ttok Tryd.func18 rfl (Nat.le_of_ble_eq_true rfl) rfl fun fx hfx => WK.top ?_
  simp only [impl, imp, argT, List.append_nil, List.map_nil, List.map_cons, List.nil_append, List.cons_append, List.length_cons, List.length_nil, show Tryd.f18.ntmps = 17 from rfl, Nat.zero_add, Nat.reduceAdd]
  repeat' (first
    | refine WK.seq ?_
    | refine WK.reg ?_
    | refine IL.nil ?_
    | refine WK.skip ?_
    | refine WK.block ?_
    | refine WK.exit_here ?_
    | refine WK.exit_out1 (by decide) ?_
    | refine WK.exit_out2 (by decide) (by decide) ?_
    | (with_reducible refine IL.wr ?_ ?_; (focus (first | exact wrap_i64 (by omega) (by omega) | exact wrap_u64 (by omega) (by omega) | exact wrap_u32 (by omega) (by omega) | exact wrap_u16 (by omega) (by omega) | exact wrap_u8 (by omega) (by omega))))
    | (refine IL.stepg (σ' := ?_) ttok (by first | exact .inl rfl | (refine Gok.mk2 (b := ?_) rfl ?_ ?_; rotate_left 1; (focus rfl); (focus (with_reducible rfl)))) (fun K hK => ?_) ?_; rotate_left 1; (focus (simp only [go_sem, reduceIte]; first | exact hK | (and_intros <;> first | exact hK | omega | assumption | rfl | decide))))
    | (refine IL.no (σ' := ?_) (by first | (refine Gno.mkT (b := ?_) rfl ?_ ?_; rotate_left 1; (focus rfl); (focus (with_reducible rfl))) | (refine Gno.mkF (b := ?_) rfl ?_ ?_; rotate_left 1; (focus rfl); (focus (with_reducible rfl))) | exact Gno.mkU rfl rfl) (fun K hK => ?_) ?_; rotate_left 1; (focus (simp only [go_sem, reduceIte]; exact hK)))
    | (refine IL.callS (f := 32) (xs := ?_) (A := ?_) (A' := ?_) (rr := ?_) (σ' := ?_) (bs := ?_) (ks := ?_) (sets := ?_) (pushes := ?_) ttok ent32 [.own] true ?_ ?_ ?_ ?_ ?_ ?_ ?_ ?_ ?_ (fun K hK => ?_) ?_; rotate_left 9; (focus (first | exact .inl rfl | (refine Gok.mk2 (b := ?_) rfl ?_ ?_; rotate_left 1; (focus rfl); (focus (with_reducible rfl))))); (focus rfl); (focus (first | rfl | (simp only [go_sem, reduceIte] <;> rfl))); (focus (refine left_call _ _ _ ?_ ?_ <;> first | omega | assumption | decide | simp)); (focus rfl); (focus rfl); (focus (first | rfl | simp only [go_sem])); (focus (first | rfl | (simp only [go_sem, reduceIte] <;> rfl))); (focus simp); (focus (simp only [go_sem, reduceIte]; exact hK)))
    | ((first | (refine IL.askg (b := ?_) (d := ?_) ?_ ?_ (fun h => ?_) (fun h => ?_); rotate_left 2; (focus rfl); (focus rfl)) | (refine IL.askp (b := ?_) (d := ?_) ?_ ?_ (fun h => ?_) (fun h => ?_); rotate_left 2; (focus rfl); (focus rfl))); (fail_if_success (focus (simp only [reduceCtorEq] at h))); all_goals first | (simp only [Bool.and_eq_true, Bool.and_eq_false_iff, Bool.or_eq_true, Bool.or_eq_false_iff, Bool.not_eq_true', Bool.not_eq_false', beq_iff_eq, beq_eq_false_iff_ne, ne_eq, bne_iff_ne, bne_eq_false_iff_eq, decide_eq_true_eq, decide_eq_false_iff_not, Decidable.not_not] at h; first | done | (exfalso; omega; done) | skip) | skip)
    | (refine WK.cond (b := ?_) ?_ (fun h => ?_) (fun h => ?_); rotate_left 1; (focus rfl); all_goals first | (simp only [reduceCtorEq] at h; done) | (simp only [Bool.and_eq_true, Bool.and_eq_false_iff, Bool.or_eq_true, Bool.or_eq_false_iff, Bool.not_eq_true', Bool.not_eq_false', beq_iff_eq, beq_eq_false_iff_ne, ne_eq, bne_iff_ne, bne_eq_false_iff_eq, decide_eq_true_eq, decide_eq_false_iff_not, Decidable.not_not] at h; first | done | (exfalso; omega; done) | skip) | skip))
  all_goals try ((first | refine WK.ret ⟨.inr rfl, Fin.of (q' := ?_) (A2 := ?_) (k1 := ?_) (k2 := ?_) ?_ ?_ ?_ ?_ ?_⟩ | refine ⟨.inl rfl, Fin.of (q' := ?_) (A2 := ?_) (k1 := ?_) (k2 := ?_) ?_ ?_ ?_ ?_ ?_⟩ | refine ⟨.inl trivial, Fin.of (q' := ?_) (A2 := ?_) (k1 := ?_) (k2 := ?_) ?_ ?_ ?_ ?_ ?_⟩); rotate_left 4; (focus (first | rfl | (simp only [go_sem, show Tryd.f18.results.toList = [.tmp 2] from rfl, reduceIte] <;> rfl))); (focus (first | rfl | (simp only [go_sem, reduceIte] <;> rfl))); (focus rfl); rotate_left 1; (focus (first | rfl | skip)); all_goals try with_reducible rfl)
  all_goals first | (refine Weak.cut' rfl rfl ?_; (first | (simp only [go_sem, reduceIte] <;> (try and_intros) <;> first | rfl | omega | grind))) | (refine ⟨?_, ?_⟩; rotate_left 1; (focus (refine Weak.cut' rfl rfl ?_; (first | (simp only [go_sem, reduceIte] <;> (try and_intros) <;> first | rfl | omega | grind)))); grind) | grind
theorem from_call (l : List UInt8) (n : Nat) (hn : n = l.length) : SCall Tryd.prog 6 [.tr n (bcells l)] (rdO l 0 0) [.tr n (bcells l)] := by
  subst hn
  refine SCall.of_body' (TT := TT) (fun _ => false) [false] ttok Tryd.func6 rfl (Nat.le_of_ble_eq_true rfl) rfl fun fx hfx => WK.top ?_
  simp only [impl, imp, argT, List.append_nil, List.map_nil, List.nil_append, show Tryd.f6.ntmps = 7 from rfl, Nat.zero_add, Nat.reduceAdd]
  repeat' (first
    | refine WK.seq ?_
    | refine WK.reg ?_
    | refine IL.nil ?_
    | refine WK.skip ?_
    | refine WK.block ?_
    | refine WK.exit_here ?_
    | refine WK.exit_out1 (by decide) ?_
    | refine WK.exit_out2 (by decide) (by decide) ?_
    | (with_reducible refine IL.wr ?_ ?_; (focus (first | exact wrap_i64 (by omega) (by omega) | exact wrap_u64 (by omega) (by omega) | exact wrap_u32 (by omega) (by omega) | exact wrap_u16 (by omega) (by omega) | exact wrap_u8 (by omega) (by omega))))
    | (refine IL.stepg (σ' := ?_) ttok (by first | exact .inl rfl | (refine Gok.mk2 (b := ?_) rfl ?_ ?_; rotate_left 1; (focus rfl); (focus (with_reducible rfl)))) (fun K hK => ?_) ?_; rotate_left 1; (focus (simp only [go_sem, reduceIte]; first | exact hK | (and_intros <;> first | exact hK | omega | assumption | rfl | decide))))
    | (refine IL.no (σ' := ?_) (by first | (refine Gno.mkT (b := ?_) rfl ?_ ?_; rotate_left 1; (focus rfl); (focus (with_reducible rfl))) | (refine Gno.mkF (b := ?_) rfl ?_ ?_; rotate_left 1; (focus rfl); (focus (with_reducible rfl))) | exact Gno.mkU rfl rfl) (fun K hK => ?_) ?_; rotate_left 1; (focus (simp only [go_sem, reduceIte]; exact hK)))
    | ((first | (refine IL.askg (b := ?_) (d := ?_) ?_ ?_ (fun h => ?_) (fun h => ?_); rotate_left 2; (focus rfl); (focus rfl)) | (refine IL.askp (b := ?_) (d := ?_) ?_ ?_ (fun h => ?_) (fun h => ?_); rotate_left 2; (focus rfl); (focus rfl))); (fail_if_success (focus (simp only [reduceCtorEq] at h))); all_goals first | (simp only [Bool.and_eq_true, Bool.and_eq_false_iff, Bool.or_eq_true, Bool.or_eq_false_iff, Bool.not_eq_true', Bool.not_eq_false', beq_iff_eq, beq_eq_false_iff_ne, ne_eq, bne_iff_ne, bne_eq_false_iff_eq, decide_eq_true_eq, decide_eq_false_iff_not, Decidable.not_not] at h; first | done | (exfalso; omega; done) | skip) | skip)
    | (refine WK.cond (b := ?_) ?_ (fun h => ?_) (fun h => ?_); rotate_left 1; (focus rfl); all_goals first | (simp only [reduceCtorEq] at h; done) | (simp only [Bool.and_eq_true, Bool.and_eq_false_iff, Bool.or_eq_true, Bool.or_eq_false_iff, Bool.not_eq_true', Bool.not_eq_false', beq_iff_eq, beq_eq_false_iff_ne, ne_eq, bne_iff_ne, bne_eq_false_iff_eq, decide_eq_true_eq, decide_eq_false_iff_not, Decidable.not_not] at h; first | done | (exfalso; omega; done) | skip) | skip))
  all_goals try ((first | refine WK.ret ⟨.inr rfl, Fin.of (q' := ?_) (A2 := ?_) (k1 := ?_) (k2 := ?_) ?_ ?_ ?_ ?_ ?_⟩ | refine ⟨.inl rfl, Fin.of (q' := ?_) (A2 := ?_) (k1 := ?_) (k2 := ?_) ?_ ?_ ?_ ?_ ?_⟩ | refine ⟨.inl trivial, Fin.of (q' := ?_) (A2 := ?_) (k1 := ?_) (k2 := ?_) ?_ ?_ ?_ ?_ ?_⟩); rotate_left 4; (focus (first | rfl | (simp only [go_sem, show Tryd.f6.results.toList = [.tmp 2] from rfl, reduceIte] <;> rfl))); (focus (first | rfl | (simp only [go_sem, reduceIte] <;> rfl))); (focus rfl); rotate_left 1; (focus (first | rfl | skip)); all_goals try with_reducible rfl)
  rfl
/-- a number's bytes, read: the number, how many bytes, an error -/
def readN (lim : Nat) : Nat → List UInt8 → Nat → Nat → Nat × Nat × Nat
  | 0, _, _, _ => (0, 0, 11)
  | _ + 1, [], _, _ => (0, 0, 14)
  | f + 1, c :: r, k, n => if 128 ≤ c.toNat then readN lim f r (k + 1) (n + c.toNat % 128 * 128 ^ k) else if c.toNat = 0 ∧ 0 < k then (0, 0, 11) else if lim < n + c.toNat % 128 * 128 ^ k then (0, 0, 10) else (n + c.toNat % 128 * 128 ^ k, k + 1, 0)
def rNum (l : List UInt8) (p : Nat) (e : Int) (lim : Nat) : Nat × Nat × Int :=
  if e = 0 then (if (readN lim 9 (l.drop p) 0 0).2.2 = 0 then ((readN lim 9 (l.drop p) 0 0).1, p + (readN lim 9 (l.drop p) 0 0).2.1, 0) else (0, p, ((readN lim 9 (l.drop p) 0 0).2.2 : Int))) else (0, p, e)
theorem num_call (l : List UInt8) (p : Nat) (e : Int) (lim : Nat) (hp : p ≤ l.length) (hl : l.length < 2 ^ 62) (hlim : lim < 2 ^ 64) :
    SCall Tryd.prog 20 [rdO l p e, .v (.int .u64 (lim : Int))] (.v (.int .u64 ((rNum l p e lim).1 : Int))) [rdO l (rNum l p e lim).2.1 (rNum l p e lim).2.2, .v (.int .u64 (lim : Int))] := by
  refine SCall.of_body' (TT := TT) (fun k => decide (k < 1)) [false, false] ttok Tryd.func20 rfl (Nat.le_of_ble_eq_true rfl) rfl fun fx hfx => WK.top ?_
  simp only [impl, imp, argT, List.append_nil, List.map_nil, List.map_cons, List.nil_append, List.cons_append, List.length_cons, List.length_nil, show Tryd.f20.ntmps = 71 from rfl, Nat.zero_add, Nat.reduceAdd]
  repeat' (first
    | refine WK.seq ?_
    | refine WK.reg ?_
    | refine IL.nil ?_
    | refine WK.skip ?_
    | refine WK.block ?_
    | refine WK.exit_here ?_
    | refine WK.exit_out1 (by decide) ?_
    | refine WK.exit_out2 (by decide) (by decide) ?_
    | refine WK.drawnS (id := 10) mixed [] [] [] [] (by decide +kernel) ?_
    | refine DW.nil ?_
    | (with_reducible refine IL.wr ?_ ?_; (focus (first | exact wrap_i64 (by omega) (by omega) | exact wrap_u64 (by omega) (by omega) | exact wrap_u32 (by omega) (by omega) | exact wrap_u16 (by omega) (by omega) | exact wrap_u8 (by omega) (by omega))))
    | (with_reducible refine DW.wr ?_ ?_; (focus (first | exact wrap_i64 (by omega) (by omega) | exact wrap_u64 (by omega) (by omega) | exact wrap_u32 (by omega) (by omega) | exact wrap_u16 (by omega) (by omega) | exact wrap_u8 (by omega) (by omega))))
    | (refine IL.stepg (σ' := ?_) ttok (by first | exact .inl rfl | (refine Gok.mk2 (b := ?_) rfl ?_ ?_; rotate_left 1; (focus rfl); (focus (with_reducible rfl)))) (fun K hK => ?_) ?_; rotate_left 1; (focus (simp only [go_sem, reduceIte]; first | exact hK | (and_intros <;> first | exact hK | omega | assumption | rfl | decide))))
    | (refine IL.no (σ' := ?_) (by first | (refine Gno.mkT (b := ?_) rfl ?_ ?_; rotate_left 1; (focus rfl); (focus (with_reducible rfl))) | (refine Gno.mkF (b := ?_) rfl ?_ ?_; rotate_left 1; (focus rfl); (focus (with_reducible rfl))) | exact Gno.mkU rfl rfl) (fun K hK => ?_) ?_; rotate_left 1; (focus (simp only [go_sem, reduceIte]; exact hK)))
    | (refine DW.rd (L := ?_) (T' := ?_) ttok rfl rfl (by decide) ?_ ?_ (fun K hK => ?_) ?_ ?_; rotate_left 2; (focus rfl); (focus (first | exact .inl rfl | (refine Gok.mk2 (b := ?_) rfl ?_ ?_; rotate_left 1; (focus rfl); (focus (with_reducible rfl))))); (focus (simp only [go_sem, reduceIte]; first | exact hK | (and_intros <;> first | exact hK | omega | assumption | rfl | decide))); (focus (first | exact ⟨_, rfl⟩ | rfl)))
    | (refine DW.rdm (L := ?_) (T' := ?_) ttok rfl rfl ?_ ?_ (fun K hK => ?_) ?_ ?_; rotate_left 2; (focus rfl); (focus (first | exact .inl rfl | (refine Gok.mk2 (b := ?_) rfl ?_ ?_; rotate_left 1; (focus rfl); (focus (with_reducible rfl))))); (focus (simp only [go_sem, reduceIte]; first | exact hK | (and_intros <;> first | exact hK | omega | assumption | rfl | decide))); (focus (first | exact ⟨_, rfl⟩ | rfl)))
    | (refine DW.bl (L' := ?_) (T' := ?_) ttok rfl ?_ (fun K hK => ?_) ?_ ?_ ?_; rotate_left 2; (focus (first | exact .inl rfl | (refine Gok.mk2 (b := ?_) rfl ?_ ?_; rotate_left 1; (focus rfl); (focus (with_reducible rfl))))); (focus (simp only [go_sem, reduceIte]; first | exact hK | (and_intros <;> first | exact hK | omega | assumption | rfl | decide))); (focus (first | exact ⟨_, rfl⟩ | rfl)); (focus (first | exact .inl rfl | exact .inr (LEX.refl _ _) | exact .inr (LE.app _ _).lex | exact .inr (LEX.of (by simp only [go_sem, List.contains_cons, List.contains_nil, Nat.reduceBEq, Bool.or_false, Bool.false_or, Nat.reduceAdd, true_or, false_or, true_and]; first | done | trivial | (and_intros <;> first | exact ⟨_, rfl⟩ | trivial))))))
    | (refine DW.no (L := ?_) (T' := ?_) ?_ rfl ?_ (fun K hK => ?_) ?_ ?_; rotate_left 2; (focus rfl); (focus (first | (refine Gno.mkT (b := ?_) rfl ?_ ?_; rotate_left 1; (focus rfl); (focus (with_reducible rfl))) | (refine Gno.mkF (b := ?_) rfl ?_ ?_; rotate_left 1; (focus rfl); (focus (with_reducible rfl))) | exact Gno.mkU rfl rfl)); (focus (simp only [go_sem, reduceIte]; exact hK)); (focus (first | exact ⟨_, rfl⟩ | rfl)))
    | (refine DW.nob (T' := ?_) rfl ?_ (fun K hK => ?_) ?_ ?_; rotate_left 1; (focus (first | (refine Gno.mkT (b := ?_) rfl ?_ ?_; rotate_left 1; (focus rfl); (focus (with_reducible rfl))) | (refine Gno.mkF (b := ?_) rfl ?_ ?_; rotate_left 1; (focus rfl); (focus (with_reducible rfl))) | exact Gno.mkU rfl rfl)); (focus (simp only [go_sem, reduceIte]; exact hK)); (focus (first | exact ⟨_, rfl⟩ | rfl)))
    | (refine IL.callS (f := 32) (xs := ?_) (A := ?_) (A' := ?_) (rr := ?_) (σ' := ?_) (bs := ?_) (ks := ?_) (sets := ?_) (pushes := ?_) ttok ent32 [.own] true ?_ ?_ ?_ ?_ ?_ ?_ ?_ ?_ ?_ (fun K hK => ?_) ?_; rotate_left 9; (focus (first | exact .inl rfl | (refine Gok.mk2 (b := ?_) rfl ?_ ?_; rotate_left 1; (focus rfl); (focus (with_reducible rfl))))); (focus rfl); (focus (first | rfl | (simp only [go_sem, reduceIte] <;> rfl))); (focus (refine left_call _ _ _ ?_ ?_ <;> first | omega | assumption | decide | simp)); (focus rfl); (focus rfl); (focus (first | rfl | simp only [go_sem])); (focus (first | rfl | (simp only [go_sem, reduceIte] <;> rfl))); (focus simp); (focus (simp only [go_sem, reduceIte]; exact hK)))
    | (refine IL.callS (f := 36) (xs := ?_) (A := ?_) (A' := ?_) (rr := ?_) (σ' := ?_) (bs := ?_) (ks := ?_) (sets := ?_) (pushes := ?_) ttok ent36 [.own, .bor] true ?_ ?_ ?_ ?_ ?_ ?_ ?_ ?_ ?_ (fun K hK => ?_) ?_; rotate_left 9; (focus (first | exact .inl rfl | (refine Gok.mk2 (b := ?_) rfl ?_ ?_; rotate_left 1; (focus rfl); (focus (with_reducible rfl))))); (focus rfl); (focus (first | rfl | (simp only [go_sem, reduceIte] <;> rfl))); (focus (exact fail_call _ _ _ _)); (focus rfl); (focus rfl); (focus (first | rfl | simp only [go_sem])); (focus (first | rfl | (simp only [go_sem, reduceIte] <;> rfl))); (focus simp); (focus (simp only [go_sem, reduceIte]; exact hK)))
    | ((first | (refine IL.askg (b := ?_) (d := ?_) ?_ ?_ (fun h => ?_) (fun h => ?_); rotate_left 2; (focus rfl); (focus rfl)) | (refine DW.askg (b := ?_) (d := ?_) ?_ ?_ (fun h => ?_) (fun h => ?_); rotate_left 2; (focus rfl); (focus rfl)) | (refine IL.askp (b := ?_) (d := ?_) ?_ ?_ (fun h => ?_) (fun h => ?_); rotate_left 2; (focus rfl); (focus rfl)) | (refine DW.askp (b := ?_) (d := ?_) ?_ ?_ (fun h => ?_) (fun h => ?_); rotate_left 2; (focus rfl); (focus rfl))); (fail_if_success (focus (simp only [reduceCtorEq] at h))); all_goals first | (simp only [Bool.and_eq_true, Bool.and_eq_false_iff, Bool.or_eq_true, Bool.or_eq_false_iff, Bool.not_eq_true', Bool.not_eq_false', beq_iff_eq, beq_eq_false_iff_ne, ne_eq, bne_iff_ne, bne_eq_false_iff_eq, decide_eq_true_eq, decide_eq_false_iff_not, Decidable.not_not] at h; first | done | (exfalso; omega; done) | skip) | skip)
    | (refine WK.cond (b := ?_) ?_ (fun h => ?_) (fun h => ?_); rotate_left 1; (focus rfl); all_goals first | (simp only [reduceCtorEq] at h; done) | (simp only [Bool.and_eq_true, Bool.and_eq_false_iff, Bool.or_eq_true, Bool.or_eq_false_iff, Bool.not_eq_true', Bool.not_eq_false', beq_iff_eq, beq_eq_false_iff_ne, ne_eq, bne_iff_ne, bne_eq_false_iff_eq, decide_eq_true_eq, decide_eq_false_iff_not, Decidable.not_not] at h; first | done | (exfalso; omega; done) | skip) | skip))
  refine WK.gotoL (α := Nat × Nat) 0 (rest := _) rfl (fun x => 9 - x.1) (fun x => e = 0 ∧ x.1 ≤ 9 ∧ x.2 < 128 ^ x.1 ∧ readN lim (9 - x.1) (l.drop (p + x.1)) x.1 x.2 = readN lim 9 (l.drop p) 0 0)
    (fun x => ⟨71, [(0, .ptr 0 0 0), (1, .v (.int .u64 (lim : Int))), (5, .v (.int .u64 (x.2 : Int))), (7, .v (.int .i64 (x.1 : Int)))], [some ⟨false, 0, 1, false, [.v (.string ⟨l.toArray⟩), .v (.int .i64 (p : Int)), .v (.int .i64 e)], 0, false⟩]⟩) ?_ ?_
  · rintro ⟨k, n⟩ ⟨he, hk, hn, hr⟩
    simp only at hk hn hr ⊢
    subst he
    have hand : ∀ c : UInt8, bits .and .u8 (c.toNat : Int) 127 = ((c.toNat % 128 : Nat) : Int) := fun c => and_127 _ c.toNat_lt
    rcases Nat.eq_or_lt_of_le hk with rfl | hk
    · rw [show 9 - 9 = 0 from rfl, readN] at hr
      repeat' (first
        | refine WK.seq ?_
        | refine WK.reg ?_
        | refine IL.nil ?_
        | refine WK.skip ?_
        | refine WK.block ?_
        | refine WK.exit_here ?_
        | refine WK.exit_out1 (by decide) ?_
        | refine WK.exit_out2 (by decide) (by decide) ?_
        | refine WK.drawnS (id := 10) mixed [] [] [] [] (by decide +kernel) ?_
        | refine DW.nil ?_
        | (with_reducible refine IL.wr ?_ ?_; (focus (first | exact wrap_i64 (by omega) (by omega) | exact wrap_u64 (by omega) (by omega) | exact wrap_u32 (by omega) (by omega) | exact wrap_u16 (by omega) (by omega) | exact wrap_u8 (by omega) (by omega))))
        | (with_reducible refine DW.wr ?_ ?_; (focus (first | exact wrap_i64 (by omega) (by omega) | exact wrap_u64 (by omega) (by omega) | exact wrap_u32 (by omega) (by omega) | exact wrap_u16 (by omega) (by omega) | exact wrap_u8 (by omega) (by omega))))
        | (refine IL.stepg (σ' := ?_) ttok (by first | exact .inl rfl | (refine Gok.mk2 (b := ?_) rfl ?_ ?_; rotate_left 1; (focus rfl); (focus (with_reducible rfl)))) (fun K hK => ?_) ?_; rotate_left 1; (focus (simp only [go_sem, reduceIte]; first | exact hK | (and_intros <;> first | exact hK | omega | assumption | rfl | decide))))
        | (refine IL.no (σ' := ?_) (by first | (refine Gno.mkT (b := ?_) rfl ?_ ?_; rotate_left 1; (focus rfl); (focus (with_reducible rfl))) | (refine Gno.mkF (b := ?_) rfl ?_ ?_; rotate_left 1; (focus rfl); (focus (with_reducible rfl))) | exact Gno.mkU rfl rfl) (fun K hK => ?_) ?_; rotate_left 1; (focus (simp only [go_sem, reduceIte]; exact hK)))
        | (refine DW.rd (L := ?_) (T' := ?_) ttok rfl rfl (by decide) ?_ ?_ (fun K hK => ?_) ?_ ?_; rotate_left 2; (focus rfl); (focus (first | exact .inl rfl | (refine Gok.mk2 (b := ?_) rfl ?_ ?_; rotate_left 1; (focus rfl); (focus (with_reducible rfl))))); (focus (simp only [go_sem, reduceIte]; first | exact hK | (and_intros <;> first | exact hK | omega | assumption | rfl | decide))); (focus (first | exact ⟨_, rfl⟩ | rfl)))
        | (refine DW.rdm (L := ?_) (T' := ?_) ttok rfl rfl ?_ ?_ (fun K hK => ?_) ?_ ?_; rotate_left 2; (focus rfl); (focus (first | exact .inl rfl | (refine Gok.mk2 (b := ?_) rfl ?_ ?_; rotate_left 1; (focus rfl); (focus (with_reducible rfl))))); (focus (simp only [go_sem, reduceIte]; first | exact hK | (and_intros <;> first | exact hK | omega | assumption | rfl | decide))); (focus (first | exact ⟨_, rfl⟩ | rfl)))
        | (refine DW.bl (L' := ?_) (T' := ?_) ttok rfl ?_ (fun K hK => ?_) ?_ ?_ ?_; rotate_left 2; (focus (first | exact .inl rfl | (refine Gok.mk2 (b := ?_) rfl ?_ ?_; rotate_left 1; (focus rfl); (focus (with_reducible rfl))))); (focus (simp only [go_sem, reduceIte]; first | exact hK | (and_intros <;> first | exact hK | omega | assumption | rfl | decide))); (focus (first | exact ⟨_, rfl⟩ | rfl)); (focus (first | exact .inl rfl | exact .inr (LEX.refl _ _) | exact .inr (LE.app _ _).lex | exact .inr (LEX.of (by simp only [go_sem, List.contains_cons, List.contains_nil, Nat.reduceBEq, Bool.or_false, Bool.false_or, Nat.reduceAdd, true_or, false_or, true_and]; first | done | trivial | (and_intros <;> first | exact ⟨_, rfl⟩ | trivial))))))
        | (refine DW.no (L := ?_) (T' := ?_) ?_ rfl ?_ (fun K hK => ?_) ?_ ?_; rotate_left 2; (focus rfl); (focus (first | (refine Gno.mkT (b := ?_) rfl ?_ ?_; rotate_left 1; (focus rfl); (focus (with_reducible rfl))) | (refine Gno.mkF (b := ?_) rfl ?_ ?_; rotate_left 1; (focus rfl); (focus (with_reducible rfl))) | exact Gno.mkU rfl rfl)); (focus (simp only [go_sem, reduceIte]; exact hK)); (focus (first | exact ⟨_, rfl⟩ | rfl)))
        | (refine DW.nob (T' := ?_) rfl ?_ (fun K hK => ?_) ?_ ?_; rotate_left 1; (focus (first | (refine Gno.mkT (b := ?_) rfl ?_ ?_; rotate_left 1; (focus rfl); (focus (with_reducible rfl))) | (refine Gno.mkF (b := ?_) rfl ?_ ?_; rotate_left 1; (focus rfl); (focus (with_reducible rfl))) | exact Gno.mkU rfl rfl)); (focus (simp only [go_sem, reduceIte]; exact hK)); (focus (first | exact ⟨_, rfl⟩ | rfl)))
        | (refine IL.callS (f := 32) (xs := ?_) (A := ?_) (A' := ?_) (rr := ?_) (σ' := ?_) (bs := ?_) (ks := ?_) (sets := ?_) (pushes := ?_) ttok ent32 [.own] true ?_ ?_ ?_ ?_ ?_ ?_ ?_ ?_ ?_ (fun K hK => ?_) ?_; rotate_left 9; (focus (first | exact .inl rfl | (refine Gok.mk2 (b := ?_) rfl ?_ ?_; rotate_left 1; (focus rfl); (focus (with_reducible rfl))))); (focus rfl); (focus (first | rfl | (simp only [go_sem, reduceIte] <;> rfl))); (focus (refine left_call _ _ _ ?_ ?_ <;> first | omega | assumption | decide | simp)); (focus rfl); (focus rfl); (focus (first | rfl | simp only [go_sem])); (focus (first | rfl | (simp only [go_sem, reduceIte] <;> rfl))); (focus simp); (focus (simp only [go_sem, reduceIte]; exact hK)))
        | (refine IL.callS (f := 36) (xs := ?_) (A := ?_) (A' := ?_) (rr := ?_) (σ' := ?_) (bs := ?_) (ks := ?_) (sets := ?_) (pushes := ?_) ttok ent36 [.own, .bor] true ?_ ?_ ?_ ?_ ?_ ?_ ?_ ?_ ?_ (fun K hK => ?_) ?_; rotate_left 9; (focus (first | exact .inl rfl | (refine Gok.mk2 (b := ?_) rfl ?_ ?_; rotate_left 1; (focus rfl); (focus (with_reducible rfl))))); (focus rfl); (focus (first | rfl | (simp only [go_sem, reduceIte] <;> rfl))); (focus (exact fail_call _ _ _ _)); (focus rfl); (focus rfl); (focus (first | rfl | simp only [go_sem])); (focus (first | rfl | (simp only [go_sem, reduceIte] <;> rfl))); (focus simp); (focus (simp only [go_sem, reduceIte]; exact hK)))
        | ((first | (refine IL.askg (b := ?_) (d := ?_) ?_ ?_ (fun h => ?_) (fun h => ?_); rotate_left 2; (focus rfl); (focus rfl)) | (refine DW.askg (b := ?_) (d := ?_) ?_ ?_ (fun h => ?_) (fun h => ?_); rotate_left 2; (focus rfl); (focus rfl)) | (refine IL.askp (b := ?_) (d := ?_) ?_ ?_ (fun h => ?_) (fun h => ?_); rotate_left 2; (focus rfl); (focus rfl)) | (refine DW.askp (b := ?_) (d := ?_) ?_ ?_ (fun h => ?_) (fun h => ?_); rotate_left 2; (focus rfl); (focus rfl))); (fail_if_success (focus (simp only [reduceCtorEq] at h))); all_goals first | (simp only [Bool.and_eq_true, Bool.and_eq_false_iff, Bool.or_eq_true, Bool.or_eq_false_iff, Bool.not_eq_true', Bool.not_eq_false', beq_iff_eq, beq_eq_false_iff_ne, ne_eq, bne_iff_ne, bne_eq_false_iff_eq, decide_eq_true_eq, decide_eq_false_iff_not, Decidable.not_not] at h; first | done | (exfalso; omega; done) | skip) | skip)
        | (refine WK.cond (b := ?_) ?_ (fun h => ?_) (fun h => ?_); rotate_left 1; (focus rfl); all_goals first | (simp only [reduceCtorEq] at h; done) | (simp only [Bool.and_eq_true, Bool.and_eq_false_iff, Bool.or_eq_true, Bool.or_eq_false_iff, Bool.not_eq_true', Bool.not_eq_false', beq_iff_eq, beq_eq_false_iff_ne, ne_eq, bne_iff_ne, bne_eq_false_iff_eq, decide_eq_true_eq, decide_eq_false_iff_not, Decidable.not_not] at h; first | done | (exfalso; omega; done) | skip) | skip))
      all_goals try ((first | refine WK.ret ⟨.inr rfl, Fin.of (q' := ?_) (A2 := ?_) (k1 := ?_) (k2 := ?_) ?_ ?_ ?_ ?_ ?_⟩ | refine ⟨.inl rfl, Fin.of (q' := ?_) (A2 := ?_) (k1 := ?_) (k2 := ?_) ?_ ?_ ?_ ?_ ?_⟩ | refine ⟨.inl trivial, Fin.of (q' := ?_) (A2 := ?_) (k1 := ?_) (k2 := ?_) ?_ ?_ ?_ ?_ ?_⟩); rotate_left 4; (focus (first | rfl | (simp only [go_sem, show Tryd.f20.results.toList = [.tmp 4] from rfl, reduceIte] <;> rfl))); (focus (first | rfl | (simp only [go_sem, reduceIte] <;> rfl))); (focus rfl); rotate_left 1; (focus (first | rfl | skip)); all_goals try with_reducible rfl)
      all_goals first | (refine Weak.cut' rfl rfl ?_; (first | (simp only [go_sem, reduceIte] <;> (try and_intros) <;> first | rfl | omega | grind [rNum]))) | (refine ⟨?_, ?_⟩; rotate_left 1; (focus (refine Weak.cut' rfl rfl ?_; (first | (simp only [go_sem, reduceIte] <;> (try and_intros) <;> first | rfl | omega | grind [rNum])))); grind [rNum]) | grind [rNum]
    · rw [show 9 - k = (9 - (k + 1)) + 1 by omega] at hr
      by_cases hpk : p + k < l.length
      · have hx : l[p + k]? = some l[p + k] := List.getElem?_eq_getElem hpk
        have hgd : l.getD (p + k) 0 = l[p + k] := by simp [List.getD, hx]
        rw [List.drop_eq_getElem_cons hpk, readN] at hr
        have hc := l[p + k].toNat_lt
        generalize l[p + k] = c at *
        have hsh := or_shift n k (c.toNat % 128) hk hn (by omega)
        have hj : ((p : Int) + k).toNat = p + k := by omega
        have h7 : (7 * (k : Int)).toNat = 7 * k := by omega
        have hpw : n + c.toNat % 128 * 128 ^ k < 128 ^ (k + 1) := by
          have : c.toNat % 128 * 128 ^ k ≤ 127 * 128 ^ k := Nat.mul_le_mul_right _ (by omega)
          rw [Nat.pow_succ]; omega
        have hp9 : 128 ^ (k + 1) ≤ 128 ^ 9 := Nat.pow_le_pow_right (by decide) (by omega)
        repeat' (first
          | refine WK.seq ?_
          | refine WK.reg ?_
          | refine IL.nil ?_
          | refine WK.skip ?_
          | refine WK.block ?_
          | refine WK.exit_here ?_
          | refine WK.exit_out1 (by decide) ?_
          | refine WK.exit_out2 (by decide) (by decide) ?_
          | refine WK.drawnS (id := 10) mixed [] [] [] [] (by decide +kernel) ?_
          | refine DW.nil ?_
          | (with_reducible refine IL.wr ?_ ?_; (focus (first | exact wrap_i64 (by omega) (by omega) | exact wrap_u64 (by omega) (by omega) | exact wrap_u32 (by omega) (by omega) | exact wrap_u16 (by omega) (by omega) | exact wrap_u8 (by omega) (by omega))))
          | (with_reducible refine DW.wr ?_ ?_; (focus (first | exact wrap_i64 (by omega) (by omega) | exact wrap_u64 (by omega) (by omega) | exact wrap_u32 (by omega) (by omega) | exact wrap_u16 (by omega) (by omega) | exact wrap_u8 (by omega) (by omega))))
          | (refine IL.stepg (σ' := ?_) ttok (by first | exact .inl rfl | (refine Gok.mk2 (b := ?_) rfl ?_ ?_; rotate_left 1; (focus rfl); (focus (with_reducible rfl)))) (fun K hK => ?_) ?_; rotate_left 1; (focus (simp only [go_sem, reduceIte, hand, hsh, hj, h7, hgd]; first | exact hK | (and_intros <;> first | exact hK | omega | assumption | rfl | decide))))
          | (refine IL.no (σ' := ?_) (by first | (refine Gno.mkT (b := ?_) rfl ?_ ?_; rotate_left 1; (focus rfl); (focus (with_reducible rfl))) | (refine Gno.mkF (b := ?_) rfl ?_ ?_; rotate_left 1; (focus rfl); (focus (with_reducible rfl))) | exact Gno.mkU rfl rfl) (fun K hK => ?_) ?_; rotate_left 1; (focus (simp only [go_sem, reduceIte]; exact hK)))
          | (refine DW.rd (L := ?_) (T' := ?_) ttok rfl rfl (by decide) ?_ ?_ (fun K hK => ?_) ?_ ?_; rotate_left 2; (focus rfl); (focus (first | exact .inl rfl | (refine Gok.mk2 (b := ?_) rfl ?_ ?_; rotate_left 1; (focus rfl); (focus (with_reducible rfl))))); (focus (simp only [go_sem, reduceIte, hand, hsh, hj, h7, hgd]; first | exact hK | (and_intros <;> first | exact hK | omega | assumption | rfl | decide))); (focus (first | exact ⟨_, rfl⟩ | rfl)))
          | (refine DW.rdm (L := ?_) (T' := ?_) ttok rfl rfl ?_ ?_ (fun K hK => ?_) ?_ ?_; rotate_left 2; (focus rfl); (focus (first | exact .inl rfl | (refine Gok.mk2 (b := ?_) rfl ?_ ?_; rotate_left 1; (focus rfl); (focus (with_reducible rfl))))); (focus (simp only [go_sem, reduceIte, hand, hsh, hj, h7, hgd]; first | exact hK | (and_intros <;> first | exact hK | omega | assumption | rfl | decide))); (focus (first | exact ⟨_, rfl⟩ | rfl)))
          | (refine DW.bl (L' := ?_) (T' := ?_) ttok rfl ?_ (fun K hK => ?_) ?_ ?_ ?_; rotate_left 2; (focus (first | exact .inl rfl | (refine Gok.mk2 (b := ?_) rfl ?_ ?_; rotate_left 1; (focus rfl); (focus (with_reducible rfl))))); (focus (simp only [go_sem, reduceIte, hand, hsh, hj, h7, hgd]; first | exact hK | (and_intros <;> first | exact hK | omega | assumption | rfl | decide))); (focus (first | exact ⟨_, rfl⟩ | rfl)); (focus (first | exact .inl rfl | exact .inr (LEX.refl _ _) | exact .inr (LE.app _ _).lex | exact .inr (LEX.of (by simp only [go_sem, List.contains_cons, List.contains_nil, Nat.reduceBEq, Bool.or_false, Bool.false_or, Nat.reduceAdd, true_or, false_or, true_and]; first | done | trivial | (and_intros <;> first | exact ⟨_, rfl⟩ | trivial))))))
          | (refine DW.no (L := ?_) (T' := ?_) ?_ rfl ?_ (fun K hK => ?_) ?_ ?_; rotate_left 2; (focus rfl); (focus (first | (refine Gno.mkT (b := ?_) rfl ?_ ?_; rotate_left 1; (focus rfl); (focus (with_reducible rfl))) | (refine Gno.mkF (b := ?_) rfl ?_ ?_; rotate_left 1; (focus rfl); (focus (with_reducible rfl))) | exact Gno.mkU rfl rfl)); (focus (simp only [go_sem, reduceIte]; exact hK)); (focus (first | exact ⟨_, rfl⟩ | rfl)))
          | (refine DW.nob (T' := ?_) rfl ?_ (fun K hK => ?_) ?_ ?_; rotate_left 1; (focus (first | (refine Gno.mkT (b := ?_) rfl ?_ ?_; rotate_left 1; (focus rfl); (focus (with_reducible rfl))) | (refine Gno.mkF (b := ?_) rfl ?_ ?_; rotate_left 1; (focus rfl); (focus (with_reducible rfl))) | exact Gno.mkU rfl rfl)); (focus (simp only [go_sem, reduceIte]; exact hK)); (focus (first | exact ⟨_, rfl⟩ | rfl)))
          | (refine IL.callS (f := 32) (xs := ?_) (A := ?_) (A' := ?_) (rr := ?_) (σ' := ?_) (bs := ?_) (ks := ?_) (sets := ?_) (pushes := ?_) ttok ent32 [.own] true ?_ ?_ ?_ ?_ ?_ ?_ ?_ ?_ ?_ (fun K hK => ?_) ?_; rotate_left 9; (focus (first | exact .inl rfl | (refine Gok.mk2 (b := ?_) rfl ?_ ?_; rotate_left 1; (focus rfl); (focus (with_reducible rfl))))); (focus rfl); (focus (first | rfl | (simp only [go_sem, reduceIte, hand, hsh, hj, h7, hgd] <;> rfl))); (focus (refine left_call _ _ _ ?_ ?_ <;> first | omega | assumption | decide | simp)); (focus rfl); (focus rfl); (focus (first | rfl | simp only [go_sem])); (focus (first | rfl | (simp only [go_sem, reduceIte, hand, hsh, hj, h7, hgd] <;> rfl))); (focus simp); (focus (simp only [go_sem, reduceIte, hand, hsh, hj, h7, hgd]; exact hK)))
          | (refine IL.callS (f := 36) (xs := ?_) (A := ?_) (A' := ?_) (rr := ?_) (σ' := ?_) (bs := ?_) (ks := ?_) (sets := ?_) (pushes := ?_) ttok ent36 [.own, .bor] true ?_ ?_ ?_ ?_ ?_ ?_ ?_ ?_ ?_ (fun K hK => ?_) ?_; rotate_left 9; (focus (first | exact .inl rfl | (refine Gok.mk2 (b := ?_) rfl ?_ ?_; rotate_left 1; (focus rfl); (focus (with_reducible rfl))))); (focus rfl); (focus (first | rfl | (simp only [go_sem, reduceIte, hand, hsh, hj, h7, hgd] <;> rfl))); (focus (exact fail_call _ _ _ _)); (focus rfl); (focus rfl); (focus (first | rfl | simp only [go_sem])); (focus (first | rfl | (simp only [go_sem, reduceIte, hand, hsh, hj, h7, hgd] <;> rfl))); (focus simp); (focus (simp only [go_sem, reduceIte, hand, hsh, hj, h7, hgd]; exact hK)))
          | ((first | (refine IL.askg (b := ?_) (d := ?_) ?_ ?_ (fun h => ?_) (fun h => ?_); rotate_left 2; (focus rfl); (focus rfl)) | (refine DW.askg (b := ?_) (d := ?_) ?_ ?_ (fun h => ?_) (fun h => ?_); rotate_left 2; (focus rfl); (focus rfl)) | (refine IL.askp (b := ?_) (d := ?_) ?_ ?_ (fun h => ?_) (fun h => ?_); rotate_left 2; (focus rfl); (focus rfl)) | (refine DW.askp (b := ?_) (d := ?_) ?_ ?_ (fun h => ?_) (fun h => ?_); rotate_left 2; (focus rfl); (focus rfl))); (fail_if_success (focus (simp only [reduceCtorEq] at h))); all_goals first | (simp only [Bool.and_eq_true, Bool.and_eq_false_iff, Bool.or_eq_true, Bool.or_eq_false_iff, Bool.not_eq_true', Bool.not_eq_false', beq_iff_eq, beq_eq_false_iff_ne, ne_eq, bne_iff_ne, bne_eq_false_iff_eq, decide_eq_true_eq, decide_eq_false_iff_not, Decidable.not_not] at h; first | done | (exfalso; omega; done) | skip) | skip)
          | (refine WK.cond (b := ?_) ?_ (fun h => ?_) (fun h => ?_); rotate_left 1; (focus rfl); all_goals first | (simp only [reduceCtorEq] at h; done) | (simp only [Bool.and_eq_true, Bool.and_eq_false_iff, Bool.or_eq_true, Bool.or_eq_false_iff, Bool.not_eq_true', Bool.not_eq_false', beq_iff_eq, beq_eq_false_iff_ne, ne_eq, bne_iff_ne, bne_eq_false_iff_eq, decide_eq_true_eq, decide_eq_false_iff_not, Decidable.not_not] at h; first | done | (exfalso; omega; done) | skip) | skip))
        all_goals try ((first | refine WK.ret ⟨.inr rfl, Fin.of (q' := ?_) (A2 := ?_) (k1 := ?_) (k2 := ?_) ?_ ?_ ?_ ?_ ?_⟩ | refine ⟨.inl rfl, Fin.of (q' := ?_) (A2 := ?_) (k1 := ?_) (k2 := ?_) ?_ ?_ ?_ ?_ ?_⟩ | refine ⟨.inl trivial, Fin.of (q' := ?_) (A2 := ?_) (k1 := ?_) (k2 := ?_) ?_ ?_ ?_ ?_ ?_⟩); rotate_left 4; (focus (first | rfl | (simp only [go_sem, show Tryd.f20.results.toList = [.tmp 4] from rfl, reduceIte] <;> rfl))); (focus (first | rfl | (simp only [go_sem, reduceIte] <;> rfl))); (focus rfl); rotate_left 1; (focus (first | rfl | skip)); all_goals try with_reducible rfl)
        · refine WK.goto ⟨rfl, (k + 1, n + c.toNat % 128 * 128 ^ k), by simp only; omega, ⟨rfl, by simp only; omega, hpw, ?_⟩, ?_⟩
          · rw [if_pos (by omega)] at hr; exact hr
          · (refine Weak.cut' rfl rfl ?_; (first | (simp only [go_sem, reduceIte] <;> (try and_intros) <;> first | rfl | omega | grind)))
        all_goals first | (refine Weak.cut' rfl rfl ?_; (first | (simp only [go_sem, reduceIte] <;> (try and_intros) <;> first | rfl | omega | grind [rNum]))) | (refine ⟨?_, ?_⟩; rotate_left 1; (focus (refine Weak.cut' rfl rfl ?_; (first | (simp only [go_sem, reduceIte] <;> (try and_intros) <;> first | rfl | omega | grind [rNum])))); grind [rNum]) | grind [rNum]
      · rw [List.drop_eq_nil_of_le (by omega), readN] at hr
        repeat' (first
          | refine WK.seq ?_
          | refine WK.reg ?_
          | refine IL.nil ?_
          | refine WK.skip ?_
          | refine WK.block ?_
          | refine WK.exit_here ?_
          | refine WK.exit_out1 (by decide) ?_
          | refine WK.exit_out2 (by decide) (by decide) ?_
          | refine WK.drawnS (id := 10) mixed [] [] [] [] (by decide +kernel) ?_
          | refine DW.nil ?_
          | (with_reducible refine IL.wr ?_ ?_; (focus (first | exact wrap_i64 (by omega) (by omega) | exact wrap_u64 (by omega) (by omega) | exact wrap_u32 (by omega) (by omega) | exact wrap_u16 (by omega) (by omega) | exact wrap_u8 (by omega) (by omega))))
          | (with_reducible refine DW.wr ?_ ?_; (focus (first | exact wrap_i64 (by omega) (by omega) | exact wrap_u64 (by omega) (by omega) | exact wrap_u32 (by omega) (by omega) | exact wrap_u16 (by omega) (by omega) | exact wrap_u8 (by omega) (by omega))))
          | (refine IL.stepg (σ' := ?_) ttok (by first | exact .inl rfl | (refine Gok.mk2 (b := ?_) rfl ?_ ?_; rotate_left 1; (focus rfl); (focus (with_reducible rfl)))) (fun K hK => ?_) ?_; rotate_left 1; (focus (simp only [go_sem, reduceIte]; first | exact hK | (and_intros <;> first | exact hK | omega | assumption | rfl | decide))))
          | (refine IL.no (σ' := ?_) (by first | (refine Gno.mkT (b := ?_) rfl ?_ ?_; rotate_left 1; (focus rfl); (focus (with_reducible rfl))) | (refine Gno.mkF (b := ?_) rfl ?_ ?_; rotate_left 1; (focus rfl); (focus (with_reducible rfl))) | exact Gno.mkU rfl rfl) (fun K hK => ?_) ?_; rotate_left 1; (focus (simp only [go_sem, reduceIte]; exact hK)))
          | (refine DW.rd (L := ?_) (T' := ?_) ttok rfl rfl (by decide) ?_ ?_ (fun K hK => ?_) ?_ ?_; rotate_left 2; (focus rfl); (focus (first | exact .inl rfl | (refine Gok.mk2 (b := ?_) rfl ?_ ?_; rotate_left 1; (focus rfl); (focus (with_reducible rfl))))); (focus (simp only [go_sem, reduceIte]; first | exact hK | (and_intros <;> first | exact hK | omega | assumption | rfl | decide))); (focus (first | exact ⟨_, rfl⟩ | rfl)))
          | (refine DW.rdm (L := ?_) (T' := ?_) ttok rfl rfl ?_ ?_ (fun K hK => ?_) ?_ ?_; rotate_left 2; (focus rfl); (focus (first | exact .inl rfl | (refine Gok.mk2 (b := ?_) rfl ?_ ?_; rotate_left 1; (focus rfl); (focus (with_reducible rfl))))); (focus (simp only [go_sem, reduceIte]; first | exact hK | (and_intros <;> first | exact hK | omega | assumption | rfl | decide))); (focus (first | exact ⟨_, rfl⟩ | rfl)))
          | (refine DW.bl (L' := ?_) (T' := ?_) ttok rfl ?_ (fun K hK => ?_) ?_ ?_ ?_; rotate_left 2; (focus (first | exact .inl rfl | (refine Gok.mk2 (b := ?_) rfl ?_ ?_; rotate_left 1; (focus rfl); (focus (with_reducible rfl))))); (focus (simp only [go_sem, reduceIte]; first | exact hK | (and_intros <;> first | exact hK | omega | assumption | rfl | decide))); (focus (first | exact ⟨_, rfl⟩ | rfl)); (focus (first | exact .inl rfl | exact .inr (LEX.refl _ _) | exact .inr (LE.app _ _).lex | exact .inr (LEX.of (by simp only [go_sem, List.contains_cons, List.contains_nil, Nat.reduceBEq, Bool.or_false, Bool.false_or, Nat.reduceAdd, true_or, false_or, true_and]; first | done | trivial | (and_intros <;> first | exact ⟨_, rfl⟩ | trivial))))))
          | (refine DW.no (L := ?_) (T' := ?_) ?_ rfl ?_ (fun K hK => ?_) ?_ ?_; rotate_left 2; (focus rfl); (focus (first | (refine Gno.mkT (b := ?_) rfl ?_ ?_; rotate_left 1; (focus rfl); (focus (with_reducible rfl))) | (refine Gno.mkF (b := ?_) rfl ?_ ?_; rotate_left 1; (focus rfl); (focus (with_reducible rfl))) | exact Gno.mkU rfl rfl)); (focus (simp only [go_sem, reduceIte]; exact hK)); (focus (first | exact ⟨_, rfl⟩ | rfl)))
          | (refine DW.nob (T' := ?_) rfl ?_ (fun K hK => ?_) ?_ ?_; rotate_left 1; (focus (first | (refine Gno.mkT (b := ?_) rfl ?_ ?_; rotate_left 1; (focus rfl); (focus (with_reducible rfl))) | (refine Gno.mkF (b := ?_) rfl ?_ ?_; rotate_left 1; (focus rfl); (focus (with_reducible rfl))) | exact Gno.mkU rfl rfl)); (focus (simp only [go_sem, reduceIte]; exact hK)); (focus (first | exact ⟨_, rfl⟩ | rfl)))
          | (refine IL.callS (f := 32) (xs := ?_) (A := ?_) (A' := ?_) (rr := ?_) (σ' := ?_) (bs := ?_) (ks := ?_) (sets := ?_) (pushes := ?_) ttok ent32 [.own] true ?_ ?_ ?_ ?_ ?_ ?_ ?_ ?_ ?_ (fun K hK => ?_) ?_; rotate_left 9; (focus (first | exact .inl rfl | (refine Gok.mk2 (b := ?_) rfl ?_ ?_; rotate_left 1; (focus rfl); (focus (with_reducible rfl))))); (focus rfl); (focus (first | rfl | (simp only [go_sem, reduceIte] <;> rfl))); (focus (refine left_call _ _ _ ?_ ?_ <;> first | omega | assumption | decide | simp)); (focus rfl); (focus rfl); (focus (first | rfl | simp only [go_sem])); (focus (first | rfl | (simp only [go_sem, reduceIte] <;> rfl))); (focus simp); (focus (simp only [go_sem, reduceIte]; exact hK)))
          | (refine IL.callS (f := 36) (xs := ?_) (A := ?_) (A' := ?_) (rr := ?_) (σ' := ?_) (bs := ?_) (ks := ?_) (sets := ?_) (pushes := ?_) ttok ent36 [.own, .bor] true ?_ ?_ ?_ ?_ ?_ ?_ ?_ ?_ ?_ (fun K hK => ?_) ?_; rotate_left 9; (focus (first | exact .inl rfl | (refine Gok.mk2 (b := ?_) rfl ?_ ?_; rotate_left 1; (focus rfl); (focus (with_reducible rfl))))); (focus rfl); (focus (first | rfl | (simp only [go_sem, reduceIte] <;> rfl))); (focus (exact fail_call _ _ _ _)); (focus rfl); (focus rfl); (focus (first | rfl | simp only [go_sem])); (focus (first | rfl | (simp only [go_sem, reduceIte] <;> rfl))); (focus simp); (focus (simp only [go_sem, reduceIte]; exact hK)))
          | ((first | (refine IL.askg (b := ?_) (d := ?_) ?_ ?_ (fun h => ?_) (fun h => ?_); rotate_left 2; (focus rfl); (focus rfl)) | (refine DW.askg (b := ?_) (d := ?_) ?_ ?_ (fun h => ?_) (fun h => ?_); rotate_left 2; (focus rfl); (focus rfl)) | (refine IL.askp (b := ?_) (d := ?_) ?_ ?_ (fun h => ?_) (fun h => ?_); rotate_left 2; (focus rfl); (focus rfl)) | (refine DW.askp (b := ?_) (d := ?_) ?_ ?_ (fun h => ?_) (fun h => ?_); rotate_left 2; (focus rfl); (focus rfl))); (fail_if_success (focus (simp only [reduceCtorEq] at h))); all_goals first | (simp only [Bool.and_eq_true, Bool.and_eq_false_iff, Bool.or_eq_true, Bool.or_eq_false_iff, Bool.not_eq_true', Bool.not_eq_false', beq_iff_eq, beq_eq_false_iff_ne, ne_eq, bne_iff_ne, bne_eq_false_iff_eq, decide_eq_true_eq, decide_eq_false_iff_not, Decidable.not_not] at h; first | done | (exfalso; omega; done) | skip) | skip)
          | (refine WK.cond (b := ?_) ?_ (fun h => ?_) (fun h => ?_); rotate_left 1; (focus rfl); all_goals first | (simp only [reduceCtorEq] at h; done) | (simp only [Bool.and_eq_true, Bool.and_eq_false_iff, Bool.or_eq_true, Bool.or_eq_false_iff, Bool.not_eq_true', Bool.not_eq_false', beq_iff_eq, beq_eq_false_iff_ne, ne_eq, bne_iff_ne, bne_eq_false_iff_eq, decide_eq_true_eq, decide_eq_false_iff_not, Decidable.not_not] at h; first | done | (exfalso; omega; done) | skip) | skip))
        all_goals try ((first | refine WK.ret ⟨.inr rfl, Fin.of (q' := ?_) (A2 := ?_) (k1 := ?_) (k2 := ?_) ?_ ?_ ?_ ?_ ?_⟩ | refine ⟨.inl rfl, Fin.of (q' := ?_) (A2 := ?_) (k1 := ?_) (k2 := ?_) ?_ ?_ ?_ ?_ ?_⟩ | refine ⟨.inl trivial, Fin.of (q' := ?_) (A2 := ?_) (k1 := ?_) (k2 := ?_) ?_ ?_ ?_ ?_ ?_⟩); rotate_left 4; (focus (first | rfl | (simp only [go_sem, show Tryd.f20.results.toList = [.tmp 4] from rfl, reduceIte] <;> rfl))); (focus (first | rfl | (simp only [go_sem, reduceIte] <;> rfl))); (focus rfl); rotate_left 1; (focus (first | rfl | skip)); all_goals try with_reducible rfl)
        all_goals first | (refine Weak.cut' rfl rfl ?_; (first | (simp only [go_sem, reduceIte] <;> (try and_intros) <;> first | rfl | omega | grind [rNum]))) | (refine ⟨?_, ?_⟩; rotate_left 1; (focus (refine Weak.cut' rfl rfl ?_; (first | (simp only [go_sem, reduceIte] <;> (try and_intros) <;> first | rfl | omega | grind [rNum])))); grind [rNum]) | grind [rNum]
  · intro again
    repeat' (first
      | refine WK.seq ?_
      | refine WK.reg ?_
      | refine IL.nil ?_
      | refine WK.skip ?_
      | refine WK.block ?_
      | refine WK.exit_here ?_
      | refine WK.exit_out1 (by decide) ?_
      | refine WK.exit_out2 (by decide) (by decide) ?_
      | refine WK.drawnS (id := 10) mixed [] [] [] [] (by decide +kernel) ?_
      | refine DW.nil ?_
      | (with_reducible refine IL.wr ?_ ?_; (focus (first | exact wrap_i64 (by omega) (by omega) | exact wrap_u64 (by omega) (by omega) | exact wrap_u32 (by omega) (by omega) | exact wrap_u16 (by omega) (by omega) | exact wrap_u8 (by omega) (by omega))))
      | (with_reducible refine DW.wr ?_ ?_; (focus (first | exact wrap_i64 (by omega) (by omega) | exact wrap_u64 (by omega) (by omega) | exact wrap_u32 (by omega) (by omega) | exact wrap_u16 (by omega) (by omega) | exact wrap_u8 (by omega) (by omega))))
      | (refine IL.stepg (σ' := ?_) ttok (by first | exact .inl rfl | (refine Gok.mk2 (b := ?_) rfl ?_ ?_; rotate_left 1; (focus rfl); (focus (with_reducible rfl)))) (fun K hK => ?_) ?_; rotate_left 1; (focus (simp only [go_sem, reduceIte]; first | exact hK | (and_intros <;> first | exact hK | omega | assumption | rfl | decide))))
      | (refine IL.no (σ' := ?_) (by first | (refine Gno.mkT (b := ?_) rfl ?_ ?_; rotate_left 1; (focus rfl); (focus (with_reducible rfl))) | (refine Gno.mkF (b := ?_) rfl ?_ ?_; rotate_left 1; (focus rfl); (focus (with_reducible rfl))) | exact Gno.mkU rfl rfl) (fun K hK => ?_) ?_; rotate_left 1; (focus (simp only [go_sem, reduceIte]; exact hK)))
      | (refine DW.rd (L := ?_) (T' := ?_) ttok rfl rfl (by decide) ?_ ?_ (fun K hK => ?_) ?_ ?_; rotate_left 2; (focus rfl); (focus (first | exact .inl rfl | (refine Gok.mk2 (b := ?_) rfl ?_ ?_; rotate_left 1; (focus rfl); (focus (with_reducible rfl))))); (focus (simp only [go_sem, reduceIte]; first | exact hK | (and_intros <;> first | exact hK | omega | assumption | rfl | decide))); (focus (first | exact ⟨_, rfl⟩ | rfl)))
      | (refine DW.rdm (L := ?_) (T' := ?_) ttok rfl rfl ?_ ?_ (fun K hK => ?_) ?_ ?_; rotate_left 2; (focus rfl); (focus (first | exact .inl rfl | (refine Gok.mk2 (b := ?_) rfl ?_ ?_; rotate_left 1; (focus rfl); (focus (with_reducible rfl))))); (focus (simp only [go_sem, reduceIte]; first | exact hK | (and_intros <;> first | exact hK | omega | assumption | rfl | decide))); (focus (first | exact ⟨_, rfl⟩ | rfl)))
      | (refine DW.bl (L' := ?_) (T' := ?_) ttok rfl ?_ (fun K hK => ?_) ?_ ?_ ?_; rotate_left 2; (focus (first | exact .inl rfl | (refine Gok.mk2 (b := ?_) rfl ?_ ?_; rotate_left 1; (focus rfl); (focus (with_reducible rfl))))); (focus (simp only [go_sem, reduceIte]; first | exact hK | (and_intros <;> first | exact hK | omega | assumption | rfl | decide))); (focus (first | exact ⟨_, rfl⟩ | rfl)); (focus (first | exact .inl rfl | exact .inr (LEX.refl _ _) | exact .inr (LE.app _ _).lex | exact .inr (LEX.of (by simp only [go_sem, List.contains_cons, List.contains_nil, Nat.reduceBEq, Bool.or_false, Bool.false_or, Nat.reduceAdd, true_or, false_or, true_and]; first | done | trivial | (and_intros <;> first | exact ⟨_, rfl⟩ | trivial))))))
      | (refine DW.no (L := ?_) (T' := ?_) ?_ rfl ?_ (fun K hK => ?_) ?_ ?_; rotate_left 2; (focus rfl); (focus (first | (refine Gno.mkT (b := ?_) rfl ?_ ?_; rotate_left 1; (focus rfl); (focus (with_reducible rfl))) | (refine Gno.mkF (b := ?_) rfl ?_ ?_; rotate_left 1; (focus rfl); (focus (with_reducible rfl))) | exact Gno.mkU rfl rfl)); (focus (simp only [go_sem, reduceIte]; exact hK)); (focus (first | exact ⟨_, rfl⟩ | rfl)))
      | (refine DW.nob (T' := ?_) rfl ?_ (fun K hK => ?_) ?_ ?_; rotate_left 1; (focus (first | (refine Gno.mkT (b := ?_) rfl ?_ ?_; rotate_left 1; (focus rfl); (focus (with_reducible rfl))) | (refine Gno.mkF (b := ?_) rfl ?_ ?_; rotate_left 1; (focus rfl); (focus (with_reducible rfl))) | exact Gno.mkU rfl rfl)); (focus (simp only [go_sem, reduceIte]; exact hK)); (focus (first | exact ⟨_, rfl⟩ | rfl)))
      | (refine IL.callS (f := 32) (xs := ?_) (A := ?_) (A' := ?_) (rr := ?_) (σ' := ?_) (bs := ?_) (ks := ?_) (sets := ?_) (pushes := ?_) ttok ent32 [.own] true ?_ ?_ ?_ ?_ ?_ ?_ ?_ ?_ ?_ (fun K hK => ?_) ?_; rotate_left 9; (focus (first | exact .inl rfl | (refine Gok.mk2 (b := ?_) rfl ?_ ?_; rotate_left 1; (focus rfl); (focus (with_reducible rfl))))); (focus rfl); (focus (first | rfl | (simp only [go_sem, reduceIte] <;> rfl))); (focus (refine left_call _ _ _ ?_ ?_ <;> first | omega | assumption | decide | simp)); (focus rfl); (focus rfl); (focus (first | rfl | simp only [go_sem])); (focus (first | rfl | (simp only [go_sem, reduceIte] <;> rfl))); (focus simp); (focus (simp only [go_sem, reduceIte]; exact hK)))
      | (refine IL.callS (f := 36) (xs := ?_) (A := ?_) (A' := ?_) (rr := ?_) (σ' := ?_) (bs := ?_) (ks := ?_) (sets := ?_) (pushes := ?_) ttok ent36 [.own, .bor] true ?_ ?_ ?_ ?_ ?_ ?_ ?_ ?_ ?_ (fun K hK => ?_) ?_; rotate_left 9; (focus (first | exact .inl rfl | (refine Gok.mk2 (b := ?_) rfl ?_ ?_; rotate_left 1; (focus rfl); (focus (with_reducible rfl))))); (focus rfl); (focus (first | rfl | (simp only [go_sem, reduceIte] <;> rfl))); (focus (exact fail_call _ _ _ _)); (focus rfl); (focus rfl); (focus (first | rfl | simp only [go_sem])); (focus (first | rfl | (simp only [go_sem, reduceIte] <;> rfl))); (focus simp); (focus (simp only [go_sem, reduceIte]; exact hK)))
      | ((first | (refine IL.askg (b := ?_) (d := ?_) ?_ ?_ (fun h => ?_) (fun h => ?_); rotate_left 2; (focus rfl); (focus rfl)) | (refine DW.askg (b := ?_) (d := ?_) ?_ ?_ (fun h => ?_) (fun h => ?_); rotate_left 2; (focus rfl); (focus rfl)) | (refine IL.askp (b := ?_) (d := ?_) ?_ ?_ (fun h => ?_) (fun h => ?_); rotate_left 2; (focus rfl); (focus rfl)) | (refine DW.askp (b := ?_) (d := ?_) ?_ ?_ (fun h => ?_) (fun h => ?_); rotate_left 2; (focus rfl); (focus rfl))); (fail_if_success (focus (simp only [reduceCtorEq] at h))); all_goals first | (simp only [Bool.and_eq_true, Bool.and_eq_false_iff, Bool.or_eq_true, Bool.or_eq_false_iff, Bool.not_eq_true', Bool.not_eq_false', beq_iff_eq, beq_eq_false_iff_ne, ne_eq, bne_iff_ne, bne_eq_false_iff_eq, decide_eq_true_eq, decide_eq_false_iff_not, Decidable.not_not] at h; first | done | (exfalso; omega; done) | skip) | skip)
      | (refine WK.cond (b := ?_) ?_ (fun h => ?_) (fun h => ?_); rotate_left 1; (focus rfl); all_goals first | (simp only [reduceCtorEq] at h; done) | (simp only [Bool.and_eq_true, Bool.and_eq_false_iff, Bool.or_eq_true, Bool.or_eq_false_iff, Bool.not_eq_true', Bool.not_eq_false', beq_iff_eq, beq_eq_false_iff_ne, ne_eq, bne_iff_ne, bne_eq_false_iff_eq, decide_eq_true_eq, decide_eq_false_iff_not, Decidable.not_not] at h; first | done | (exfalso; omega; done) | skip) | skip))
    all_goals try ((first | refine WK.ret ⟨.inr rfl, Fin.of (q' := ?_) (A2 := ?_) (k1 := ?_) (k2 := ?_) ?_ ?_ ?_ ?_ ?_⟩ | refine ⟨.inl rfl, Fin.of (q' := ?_) (A2 := ?_) (k1 := ?_) (k2 := ?_) ?_ ?_ ?_ ?_ ?_⟩ | refine ⟨.inl trivial, Fin.of (q' := ?_) (A2 := ?_) (k1 := ?_) (k2 := ?_) ?_ ?_ ?_ ?_ ?_⟩); rotate_left 4; (focus (first | rfl | (simp only [go_sem, show Tryd.f20.results.toList = [.tmp 4] from rfl, reduceIte] <;> rfl))); (focus (first | rfl | (simp only [go_sem, reduceIte] <;> rfl))); (focus rfl); rotate_left 1; (focus (first | rfl | skip)); all_goals try with_reducible rfl)
    · all_goals first | (refine Weak.cut' rfl rfl ?_; (first | (simp only [go_sem, reduceIte] <;> (try and_intros) <;> first | rfl | omega | grind [rNum]))) | (refine ⟨?_, ?_⟩; rotate_left 1; (focus (refine Weak.cut' rfl rfl ?_; (first | (simp only [go_sem, reduceIte] <;> (try and_intros) <;> first | rfl | omega | grind [rNum])))); grind [rNum]) | grind [rNum]
    · all_goals first | (refine Weak.cut' rfl rfl ?_; (first | (simp only [go_sem, reduceIte] <;> (try and_intros) <;> first | rfl | omega | grind [rNum]))) | (refine ⟨?_, ?_⟩; rotate_left 1; (focus (refine Weak.cut' rfl rfl ?_; (first | (simp only [go_sem, reduceIte] <;> (try and_intros) <;> first | rfl | omega | grind [rNum])))); grind [rNum]) | grind [rNum]
    · refine WK.label ?_
      refine again _ (0, 0) ⟨by assumption, by decide, by decide, rfl⟩ ?_
      (refine Weak.cut' rfl rfl ?_; (first | (simp only [go_sem, reduceIte] <;> (try and_intros) <;> first | rfl | omega | grind)))
theorem readN_le (lim : Nat) : ∀ (f : Nat) (r : List UInt8) (k n : Nat), (readN lim f r k n).1 ≤ lim ∧ ((readN lim f r k n).2.2 = 0 → (readN lim f r k n).2.1 ≤ k + r.length)
  | 0, r, k, n => by simp [readN]
  | f + 1, [], k, n => by simp [readN]
  | f + 1, c :: r, k, n => by
    have ih := readN_le lim f r (k + 1) (n + c.toNat % 128 * 128 ^ k)
    rw [readN]
    split
    · refine ⟨ih.1, fun h => ?_⟩
      have := ih.2 h
      simp only [List.length_cons]; omega
    · split
      · exact ⟨Nat.zero_le _, fun h => by cases h⟩
      · split
        · exact ⟨Nat.zero_le _, fun h => by cases h⟩
        · refine ⟨by simp only; omega, fun _ => by simp only [List.length_cons]; omega⟩
theorem rNum_le (l : List UInt8) (p : Nat) (e : Int) (lim : Nat) (hp : p ≤ l.length) : (rNum l p e lim).1 ≤ lim ∧ (rNum l p e lim).2.1 ≤ l.length := by
  have h := readN_le lim 9 (l.drop p) 0 0
  unfold rNum
  split
  · split
    · have := h.2 ‹_›
      simp only [List.length_drop] at this ⊢
      exact ⟨h.1, by omega⟩
    · exact ⟨Nat.zero_le _, hp⟩
  · exact ⟨Nat.zero_le _, hp⟩
def rText (l : List UInt8) (p : Nat) (e : Int) (lim : Nat) : List UInt8 × Nat × Int :=
  if (rNum l p e lim).2.2 = 0 then (if l.length - (rNum l p e lim).2.1 < (rNum l p e lim).1 then ([], p, 14) else ((l.drop (rNum l p e lim).2.1).take (rNum l p e lim).1, (rNum l p e lim).2.1 + (rNum l p e lim).1, 0)) else ([], (rNum l p e lim).2.1, (rNum l p e lim).2.2)
theorem text_call (l : List UInt8) (p : Nat) (e : Int) (limit : Int) (hp : p ≤ l.length) (hl : l.length < 2 ^ 62) (hlim : limit ≤ 9223372036854775807) :
    SCall Tryd.prog 37 [rdO l p e, .v (.int .i64 limit)] (.v (.string ⟨(rText l p e limit.toNat).1.toArray⟩)) [rdO l (rText l p e limit.toNat).2.1 (rText l p e limit.toNat).2.2, .v (.int .i64 limit)] := by
  have hmax : (if (0 : Int) > limit then 0 else limit) = (limit.toNat : Int) := by split <;> omega
  have hln : limit.toNat < 2 ^ 63 := by omega
  obtain ⟨hn1, hn2⟩ := rNum_le l p e limit.toNat hp
  have hq1 : (0 : Int) ≤ ((rNum l p e limit.toNat).2.1 : Int) + ((rNum l p e limit.toNat).1 : Int) - ((rNum l p e limit.toNat).1 : Int) := by omega
  have hq2 : (((rNum l p e limit.toNat).2.1 : Int) + ((rNum l p e limit.toNat).1 : Int) - ((rNum l p e limit.toNat).1 : Int)).toNat = (rNum l p e limit.toNat).2.1 := by omega
  have hq3 : (0 : Int) ≤ ((rNum l p e limit.toNat).2.1 : Int) + ((rNum l p e limit.toNat).1 : Int) := by omega
  have hq4 : (((rNum l p e limit.toNat).2.1 : Int) + ((rNum l p e limit.toNat).1 : Int)).toNat = (rNum l p e limit.toNat).2.1 + (rNum l p e limit.toNat).1 := by omega
  have hq5 : (rNum l p e limit.toNat).2.1 + (rNum l p e limit.toNat).1 - (rNum l p e limit.toNat).2.1 = (rNum l p e limit.toNat).1 := by omega
  refine SCall.of_body' (TT := TT) (fun k => decide (k < 1)) [false, false] ttok Tryd.func37 rfl (Nat.le_of_ble_eq_true rfl) rfl fun fx hfx => WK.top ?_
  simp only [impl, imp, argT, List.append_nil, List.map_nil, List.map_cons, List.nil_append, List.cons_append, List.length_cons, List.length_nil, show Tryd.f37.ntmps = 55 from rfl, Nat.zero_add, Nat.reduceAdd]
  repeat' (first
    | refine WK.seq ?_
    | refine WK.reg ?_
    | refine IL.nil ?_
    | refine WK.skip ?_
    | refine WK.block ?_
    | refine WK.exit_here ?_
    | refine WK.exit_out1 (by decide) ?_
    | refine WK.exit_out2 (by decide) (by decide) ?_
    | refine WK.drawnS (id := 10) mixed [] [] [] [] (by decide +kernel) ?_
    | refine DW.nil ?_
    | (with_reducible refine IL.wr ?_ ?_; (focus (first | exact wrap_i64 (by omega) (by omega) | exact wrap_u64 (by omega) (by omega) | exact wrap_u32 (by omega) (by omega) | exact wrap_u16 (by omega) (by omega) | exact wrap_u8 (by omega) (by omega))))
    | (with_reducible refine DW.wr ?_ ?_; (focus (first | exact wrap_i64 (by omega) (by omega) | exact wrap_u64 (by omega) (by omega) | exact wrap_u32 (by omega) (by omega) | exact wrap_u16 (by omega) (by omega) | exact wrap_u8 (by omega) (by omega))))
    | (refine IL.stepg (σ' := ?_) ttok (by first | exact .inl rfl | (refine Gok.mk2 (b := ?_) rfl ?_ ?_; rotate_left 1; (focus rfl); (focus (with_reducible rfl)))) (fun K hK => ?_) ?_; rotate_left 1; (focus (simp only [go_sem, reduceIte, hmax, hq1, hq2, hq3, hq4, hq5]; first | exact hK | (and_intros <;> first | exact hK | omega | assumption | rfl | decide))))
    | (refine IL.no (σ' := ?_) (by first | (refine Gno.mkT (b := ?_) rfl ?_ ?_; rotate_left 1; (focus rfl); (focus (with_reducible rfl))) | (refine Gno.mkF (b := ?_) rfl ?_ ?_; rotate_left 1; (focus rfl); (focus (with_reducible rfl))) | exact Gno.mkU rfl rfl) (fun K hK => ?_) ?_; rotate_left 1; (focus (simp only [go_sem, reduceIte]; exact hK)))
    | (refine DW.rd (L := ?_) (T' := ?_) ttok rfl rfl (by decide) ?_ ?_ (fun K hK => ?_) ?_ ?_; rotate_left 2; (focus rfl); (focus (first | exact .inl rfl | (refine Gok.mk2 (b := ?_) rfl ?_ ?_; rotate_left 1; (focus rfl); (focus (with_reducible rfl))))); (focus (simp only [go_sem, reduceIte, hmax, hq1, hq2, hq3, hq4, hq5]; first | exact hK | (and_intros <;> first | exact hK | omega | assumption | rfl | decide))); (focus (first | exact ⟨_, rfl⟩ | rfl)))
    | (refine DW.rdm (L := ?_) (T' := ?_) ttok rfl rfl ?_ ?_ (fun K hK => ?_) ?_ ?_; rotate_left 2; (focus rfl); (focus (first | exact .inl rfl | (refine Gok.mk2 (b := ?_) rfl ?_ ?_; rotate_left 1; (focus rfl); (focus (with_reducible rfl))))); (focus (simp only [go_sem, reduceIte, hmax, hq1, hq2, hq3, hq4, hq5]; first | exact hK | (and_intros <;> first | exact hK | omega | assumption | rfl | decide))); (focus (first | exact ⟨_, rfl⟩ | rfl)))
    | (refine DW.bl (L' := ?_) (T' := ?_) ttok rfl ?_ (fun K hK => ?_) ?_ ?_ ?_; rotate_left 2; (focus (first | exact .inl rfl | (refine Gok.mk2 (b := ?_) rfl ?_ ?_; rotate_left 1; (focus rfl); (focus (with_reducible rfl))))); (focus (simp only [go_sem, reduceIte, hmax, hq1, hq2, hq3, hq4, hq5]; first | exact hK | (and_intros <;> first | exact hK | omega | assumption | rfl | decide))); (focus (first | exact ⟨_, rfl⟩ | rfl)); (focus (first | exact .inl rfl | exact .inr (LEX.refl _ _) | exact .inr (LE.app _ _).lex | exact .inr (LEX.of (by simp only [go_sem, List.contains_cons, List.contains_nil, Nat.reduceBEq, Bool.or_false, Bool.false_or, Nat.reduceAdd, true_or, false_or, true_and]; first | done | trivial | (and_intros <;> first | exact ⟨_, rfl⟩ | trivial))))))
    | (refine DW.no (L := ?_) (T' := ?_) ?_ rfl ?_ (fun K hK => ?_) ?_ ?_; rotate_left 2; (focus rfl); (focus (first | (refine Gno.mkT (b := ?_) rfl ?_ ?_; rotate_left 1; (focus rfl); (focus (with_reducible rfl))) | (refine Gno.mkF (b := ?_) rfl ?_ ?_; rotate_left 1; (focus rfl); (focus (with_reducible rfl))) | exact Gno.mkU rfl rfl)); (focus (simp only [go_sem, reduceIte]; exact hK)); (focus (first | exact ⟨_, rfl⟩ | rfl)))
    | (refine DW.nob (T' := ?_) rfl ?_ (fun K hK => ?_) ?_ ?_; rotate_left 1; (focus (first | (refine Gno.mkT (b := ?_) rfl ?_ ?_; rotate_left 1; (focus rfl); (focus (with_reducible rfl))) | (refine Gno.mkF (b := ?_) rfl ?_ ?_; rotate_left 1; (focus rfl); (focus (with_reducible rfl))) | exact Gno.mkU rfl rfl)); (focus (simp only [go_sem, reduceIte]; exact hK)); (focus (first | exact ⟨_, rfl⟩ | rfl)))
    | (refine IL.callS (f := 20) (xs := ?_) (A := ?_) (A' := ?_) (rr := ?_) (σ' := ?_) (bs := ?_) (ks := ?_) (sets := ?_) (pushes := ?_) ttok ent20 [.own, .bor] true ?_ ?_ ?_ ?_ ?_ ?_ ?_ ?_ ?_ (fun K hK => ?_) ?_; rotate_left 9; (focus (first | exact .inl rfl | (refine Gok.mk2 (b := ?_) rfl ?_ ?_; rotate_left 1; (focus rfl); (focus (with_reducible rfl))))); (focus rfl); (focus (first | rfl | (simp only [go_sem, reduceIte, hmax, hq1, hq2, hq3, hq4, hq5] <;> rfl))); (focus (refine num_call _ _ _ _ ?_ ?_ ?_ <;> first | omega | assumption | decide | simp)); (focus rfl); (focus rfl); (focus (first | rfl | simp only [go_sem])); (focus (first | rfl | (simp only [go_sem, reduceIte, hmax, hq1, hq2, hq3, hq4, hq5] <;> rfl))); (focus simp); (focus (simp only [go_sem, reduceIte, hmax, hq1, hq2, hq3, hq4, hq5]; exact hK)))
    | (refine IL.callS (f := 32) (xs := ?_) (A := ?_) (A' := ?_) (rr := ?_) (σ' := ?_) (bs := ?_) (ks := ?_) (sets := ?_) (pushes := ?_) ttok ent32 [.own] true ?_ ?_ ?_ ?_ ?_ ?_ ?_ ?_ ?_ (fun K hK => ?_) ?_; rotate_left 9; (focus (first | exact .inl rfl | (refine Gok.mk2 (b := ?_) rfl ?_ ?_; rotate_left 1; (focus rfl); (focus (with_reducible rfl))))); (focus rfl); (focus (first | rfl | (simp only [go_sem, reduceIte, hmax, hq1, hq2, hq3, hq4, hq5] <;> rfl))); (focus (refine left_call _ _ _ ?_ ?_ <;> first | omega | assumption | decide | simp)); (focus rfl); (focus rfl); (focus (first | rfl | simp only [go_sem])); (focus (first | rfl | (simp only [go_sem, reduceIte, hmax, hq1, hq2, hq3, hq4, hq5] <;> rfl))); (focus simp); (focus (simp only [go_sem, reduceIte, hmax, hq1, hq2, hq3, hq4, hq5]; exact hK)))
    | (refine IL.callS (f := 36) (xs := ?_) (A := ?_) (A' := ?_) (rr := ?_) (σ' := ?_) (bs := ?_) (ks := ?_) (sets := ?_) (pushes := ?_) ttok ent36 [.own, .bor] true ?_ ?_ ?_ ?_ ?_ ?_ ?_ ?_ ?_ (fun K hK => ?_) ?_; rotate_left 9; (focus (first | exact .inl rfl | (refine Gok.mk2 (b := ?_) rfl ?_ ?_; rotate_left 1; (focus rfl); (focus (with_reducible rfl))))); (focus rfl); (focus (first | rfl | (simp only [go_sem, reduceIte, hmax, hq1, hq2, hq3, hq4, hq5] <;> rfl))); (focus (exact fail_call _ _ _ _)); (focus rfl); (focus rfl); (focus (first | rfl | simp only [go_sem])); (focus (first | rfl | (simp only [go_sem, reduceIte, hmax, hq1, hq2, hq3, hq4, hq5] <;> rfl))); (focus simp); (focus (simp only [go_sem, reduceIte, hmax, hq1, hq2, hq3, hq4, hq5]; exact hK)))
    | ((first | (refine IL.askg (b := ?_) (d := ?_) ?_ ?_ (fun h => ?_) (fun h => ?_); rotate_left 2; (focus rfl); (focus rfl)) | (refine DW.askg (b := ?_) (d := ?_) ?_ ?_ (fun h => ?_) (fun h => ?_); rotate_left 2; (focus rfl); (focus rfl)) | (refine IL.askp (b := ?_) (d := ?_) ?_ ?_ (fun h => ?_) (fun h => ?_); rotate_left 2; (focus rfl); (focus rfl)) | (refine DW.askp (b := ?_) (d := ?_) ?_ ?_ (fun h => ?_) (fun h => ?_); rotate_left 2; (focus rfl); (focus rfl))); (fail_if_success (focus (simp only [reduceCtorEq] at h))); all_goals first | (simp only [Bool.and_eq_true, Bool.and_eq_false_iff, Bool.or_eq_true, Bool.or_eq_false_iff, Bool.not_eq_true', Bool.not_eq_false', beq_iff_eq, beq_eq_false_iff_ne, ne_eq, bne_iff_ne, bne_eq_false_iff_eq, decide_eq_true_eq, decide_eq_false_iff_not, Decidable.not_not] at h; first | done | (exfalso; omega; done) | skip) | skip)
    | (refine WK.cond (b := ?_) ?_ (fun h => ?_) (fun h => ?_); rotate_left 1; (focus rfl); all_goals first | (simp only [reduceCtorEq] at h; done) | (simp only [Bool.and_eq_true, Bool.and_eq_false_iff, Bool.or_eq_true, Bool.or_eq_false_iff, Bool.not_eq_true', Bool.not_eq_false', beq_iff_eq, beq_eq_false_iff_ne, ne_eq, bne_iff_ne, bne_eq_false_iff_eq, decide_eq_true_eq, decide_eq_false_iff_not, Decidable.not_not] at h; first | done | (exfalso; omega; done) | skip) | skip))
  all_goals try ((first | refine WK.ret ⟨.inr rfl, Fin.of (q' := ?_) (A2 := ?_) (k1 := ?_) (k2 := ?_) ?_ ?_ ?_ ?_ ?_⟩ | refine ⟨.inl rfl, Fin.of (q' := ?_) (A2 := ?_) (k1 := ?_) (k2 := ?_) ?_ ?_ ?_ ?_ ?_⟩ | refine ⟨.inl trivial, Fin.of (q' := ?_) (A2 := ?_) (k1 := ?_) (k2 := ?_) ?_ ?_ ?_ ?_ ?_⟩); rotate_left 4; (focus (first | rfl | (simp only [go_sem, show Tryd.f37.results.toList = [.tmp 4] from rfl, reduceIte] <;> rfl))); (focus (first | rfl | (simp only [go_sem, reduceIte] <;> rfl))); (focus rfl); rotate_left 1; (focus (first | rfl | skip)); all_goals try with_reducible rfl)
  all_goals first | (refine Weak.cut' rfl rfl ?_; (first | (simp only [go_sem, reduceIte] <;> (try and_intros) <;> first | rfl | omega | grind [rText]))) | (refine ⟨?_, ?_⟩; rotate_left 1; (focus (refine Weak.cut' rfl rfl ?_; (first | (simp only [go_sem, reduceIte] <;> (try and_intros) <;> first | rfl | omega | grind [rText])))); grind [rText]) | grind [rText]
/-- a writer: the bytes that it has -/
abbrev wrO (l : List UInt8) : IV := .obj [.own 5 l.length true (bcells l)]
/-- a number's bytes -/
def numB (n : Nat) : List UInt8 := if n < 128 then [UInt8.ofNat n] else UInt8.ofNat (n % 128 + 128) :: numB (n / 128)
termination_by n
theorem numB_small (n : Nat) (h : n < 128) : numB n = [UInt8.ofNat n] := by rw [numB, if_pos h]
theorem numB_big (n : Nat) (h : ¬ n < 128) : numB n = UInt8.ofNat (n % 128 + 128) :: numB (n / 128) := by rw [numB, if_neg h]
theorem numB_le : ∀ (k n : Nat), n < 128 ^ k → (numB n).length ≤ k + 1
  | 0, n, h => by simp at h; subst h; rw [numB_small _ (by decide)]; simp
  | k + 1, n, h => by
    by_cases hn : n < 128
    · rw [numB_small _ hn]; simp
    · have := numB_le k (n / 128) (by rw [Nat.pow_succ] at h; omega)
      rw [numB_big _ hn, List.length_cons]; omega
theorem wnum_call (l : List UInt8) (n : Nat) (hn : n < 2 ^ 64) (hl : l.length < 2 ^ 46) : SCall Tryd.prog 28 [wrO l, .v (.int .u64 (n : Int))] (.tup []) [wrO (l ++ numB (n % 9223372036854775808)), .v (.int .u64 (n : Int))] := by
  have h63 := and_63 n hn
  have hlt : (n % 9223372036854775808) < 9223372036854775808 := Nat.mod_lt _ (by decide)
  generalize n % 9223372036854775808 = n0 at *
  have hnl := numB_le 9 n0 (by omega)
  refine SCall.of_body' (TT := TT) (fun k => decide (k < 1)) [false, false] ttok Tryd.func28 rfl (Nat.le_of_ble_eq_true rfl) rfl fun fx hfx => WK.top ?_
  simp only [impl, imp, argT, List.append_nil, List.map_nil, List.map_cons, List.nil_append, List.cons_append, List.length_cons, List.length_nil, show Tryd.f28.ntmps = 33 from rfl, Nat.zero_add, Nat.reduceAdd]
  refine WK.gotoL (α := List UInt8 × Nat) 0 (rest := _) rfl (fun x => x.2) (fun x => x.1 ++ numB x.2 = l ++ numB n0 ∧ x.2 < 9223372036854775808 ∧ x.1.length < 2 ^ 46 + 20)
    (fun x => ⟨33, [(0, .ptr 0 0 0), (1, .v (.int .u64 (x.2 : Int)))], [some ⟨false, 0, 1, false, [.sl 1 0 0 x.1.length], 0, false⟩, some ⟨true, 5, x.1.length, true, bcells x.1, 0, false⟩]⟩) ?_ ?_
  · rintro ⟨m, k⟩ ⟨h1, h2, h3⟩
    simp only at h1 h2 h3 ⊢
    have hor := or_128m k
    have hsh := shr_7 k
    by_cases hk : k < 128
    · rw [numB_small k hk] at h1
      repeat' (first
        | refine WK.seq ?_
        | refine WK.reg ?_
        | refine IL.nil ?_
        | refine WK.skip ?_
        | refine WK.block ?_
        | refine WK.exit_here ?_
        | refine WK.exit_out1 (by decide) ?_
        | refine WK.exit_out2 (by decide) (by decide) ?_
        | (with_reducible refine IL.wr ?_ ?_; (focus (first | exact wrap_i64 (by omega) (by omega) | exact wrap_u64 (by omega) (by omega) | exact wrap_u32 (by omega) (by omega) | exact wrap_u16 (by omega) (by omega) | exact wrap_u8 (by omega) (by omega))))
        | (refine IL.stepg (σ' := ?_) ttok (by first | exact .inl rfl | (refine Gok.mk2 (b := ?_) rfl ?_ ?_; rotate_left 1; (focus rfl); (focus (with_reducible rfl)))) (fun K hK => ?_) ?_; rotate_left 1; (focus (simp only [go_sem, reduceIte, hor, hsh]; first | exact hK | (and_intros <;> first | exact hK | omega | assumption | rfl | decide))))
        | (refine IL.no (σ' := ?_) (by first | (refine Gno.mkT (b := ?_) rfl ?_ ?_; rotate_left 1; (focus rfl); (focus (with_reducible rfl))) | (refine Gno.mkF (b := ?_) rfl ?_ ?_; rotate_left 1; (focus rfl); (focus (with_reducible rfl))) | exact Gno.mkU rfl rfl) (fun K hK => ?_) ?_; rotate_left 1; (focus (simp only [go_sem, reduceIte]; exact hK)))
        | ((first | (refine IL.askg (b := ?_) (d := ?_) ?_ ?_ (fun h => ?_) (fun h => ?_); rotate_left 2; (focus rfl); (focus rfl)) | (refine IL.askp (b := ?_) (d := ?_) ?_ ?_ (fun h => ?_) (fun h => ?_); rotate_left 2; (focus rfl); (focus rfl))); (fail_if_success (focus (simp only [reduceCtorEq] at h))); all_goals first | (simp only [Bool.and_eq_true, Bool.and_eq_false_iff, Bool.or_eq_true, Bool.or_eq_false_iff, Bool.not_eq_true', Bool.not_eq_false', beq_iff_eq, beq_eq_false_iff_ne, ne_eq, bne_iff_ne, bne_eq_false_iff_eq, decide_eq_true_eq, decide_eq_false_iff_not, Decidable.not_not] at h; first | done | (exfalso; omega; done) | skip) | skip)
        | (refine WK.cond (b := ?_) ?_ (fun h => ?_) (fun h => ?_); rotate_left 1; (focus rfl); all_goals first | (simp only [reduceCtorEq] at h; done) | (simp only [Bool.and_eq_true, Bool.and_eq_false_iff, Bool.or_eq_true, Bool.or_eq_false_iff, Bool.not_eq_true', Bool.not_eq_false', beq_iff_eq, beq_eq_false_iff_ne, ne_eq, bne_iff_ne, bne_eq_false_iff_eq, decide_eq_true_eq, decide_eq_false_iff_not, Decidable.not_not] at h; first | done | (exfalso; omega; done) | skip) | skip))
      all_goals try ((first | refine WK.ret ⟨.inr rfl, Fin.of (q' := ?_) (A2 := ?_) (k1 := ?_) (k2 := ?_) ?_ ?_ ?_ ?_ ?_⟩ | refine ⟨.inl rfl, Fin.of (q' := ?_) (A2 := ?_) (k1 := ?_) (k2 := ?_) ?_ ?_ ?_ ?_ ?_⟩ | refine ⟨.inl trivial, Fin.of (q' := ?_) (A2 := ?_) (k1 := ?_) (k2 := ?_) ?_ ?_ ?_ ?_ ?_⟩); rotate_left 4; (focus (first | rfl | (simp only [go_sem, show Tryd.f28.results.toList = [] from rfl, reduceIte] <;> rfl))); (focus (first | rfl | (simp only [go_sem, reduceIte] <;> rfl))); (focus rfl); rotate_left 1; (focus (first | rfl | skip)); all_goals try with_reducible rfl)
      have e : (UInt8.ofNat k).toNat = k := by rw [UInt8.toNat_ofNat']; omega
      rw [← h1]
      simp [wrO, bcells, e]
    · rw [numB_big k hk] at h1
      repeat' (first
        | refine WK.seq ?_
        | refine WK.reg ?_
        | refine IL.nil ?_
        | refine WK.skip ?_
        | refine WK.block ?_
        | refine WK.exit_here ?_
        | refine WK.exit_out1 (by decide) ?_
        | refine WK.exit_out2 (by decide) (by decide) ?_
        | (with_reducible refine IL.wr ?_ ?_; (focus (first | exact wrap_i64 (by omega) (by omega) | exact wrap_u64 (by omega) (by omega) | exact wrap_u32 (by omega) (by omega) | exact wrap_u16 (by omega) (by omega) | exact wrap_u8 (by omega) (by omega))))
        | (refine IL.stepg (σ' := ?_) ttok (by first | exact .inl rfl | (refine Gok.mk2 (b := ?_) rfl ?_ ?_; rotate_left 1; (focus rfl); (focus (with_reducible rfl)))) (fun K hK => ?_) ?_; rotate_left 1; (focus (simp only [go_sem, reduceIte, hor, hsh]; first | exact hK | (and_intros <;> first | exact hK | omega | assumption | rfl | decide))))
        | (refine IL.no (σ' := ?_) (by first | (refine Gno.mkT (b := ?_) rfl ?_ ?_; rotate_left 1; (focus rfl); (focus (with_reducible rfl))) | (refine Gno.mkF (b := ?_) rfl ?_ ?_; rotate_left 1; (focus rfl); (focus (with_reducible rfl))) | exact Gno.mkU rfl rfl) (fun K hK => ?_) ?_; rotate_left 1; (focus (simp only [go_sem, reduceIte]; exact hK)))
        | ((first | (refine IL.askg (b := ?_) (d := ?_) ?_ ?_ (fun h => ?_) (fun h => ?_); rotate_left 2; (focus rfl); (focus rfl)) | (refine IL.askp (b := ?_) (d := ?_) ?_ ?_ (fun h => ?_) (fun h => ?_); rotate_left 2; (focus rfl); (focus rfl))); (fail_if_success (focus (simp only [reduceCtorEq] at h))); all_goals first | (simp only [Bool.and_eq_true, Bool.and_eq_false_iff, Bool.or_eq_true, Bool.or_eq_false_iff, Bool.not_eq_true', Bool.not_eq_false', beq_iff_eq, beq_eq_false_iff_ne, ne_eq, bne_iff_ne, bne_eq_false_iff_eq, decide_eq_true_eq, decide_eq_false_iff_not, Decidable.not_not] at h; first | done | (exfalso; omega; done) | skip) | skip)
        | (refine WK.cond (b := ?_) ?_ (fun h => ?_) (fun h => ?_); rotate_left 1; (focus rfl); all_goals first | (simp only [reduceCtorEq] at h; done) | (simp only [Bool.and_eq_true, Bool.and_eq_false_iff, Bool.or_eq_true, Bool.or_eq_false_iff, Bool.not_eq_true', Bool.not_eq_false', beq_iff_eq, beq_eq_false_iff_ne, ne_eq, bne_iff_ne, bne_eq_false_iff_eq, decide_eq_true_eq, decide_eq_false_iff_not, Decidable.not_not] at h; first | done | (exfalso; omega; done) | skip) | skip))
      all_goals try ((first | refine WK.ret ⟨.inr rfl, Fin.of (q' := ?_) (A2 := ?_) (k1 := ?_) (k2 := ?_) ?_ ?_ ?_ ?_ ?_⟩ | refine ⟨.inl rfl, Fin.of (q' := ?_) (A2 := ?_) (k1 := ?_) (k2 := ?_) ?_ ?_ ?_ ?_ ?_⟩ | refine ⟨.inl trivial, Fin.of (q' := ?_) (A2 := ?_) (k1 := ?_) (k2 := ?_) ?_ ?_ ?_ ?_ ?_⟩); rotate_left 4; (focus (first | rfl | (simp only [go_sem, show Tryd.f28.results.toList = [] from rfl, reduceIte] <;> rfl))); (focus (first | rfl | (simp only [go_sem, reduceIte] <;> rfl))); (focus rfl); rotate_left 1; (focus (first | rfl | skip)); all_goals try with_reducible rfl)
      have e : (UInt8.ofNat (k % 128 + 128)).toNat = k % 128 + 128 := by rw [UInt8.toNat_ofNat']; omega
      have hbc : bcells (m ++ [UInt8.ofNat (k % 128 + 128)]) = bcells m ++ [.v (.int .u8 ((k % 128 + 128 : Nat) : Int))] := by simp only [bcells, List.map_append, List.map_cons, List.map_nil, e]
      have hml : (m ++ [UInt8.ofNat (k % 128 + 128)]).length = m.length + 1 := by simp
      have hlen := congrArg List.length h1
      simp only [List.length_append, List.length_cons] at hlen
      refine WK.goto ⟨rfl, (m ++ [UInt8.ofNat (k % 128 + 128)], k / 128), by simp only; omega, ⟨by simpa using h1, by simp only; omega, by simp only [hml]; omega⟩, ?_⟩
      (refine Weak.renP 1 [0, 1] hfx (fun k h => of_decide_eq_true h) (fun k hk => by obtain rfl : k = 0 := (by omega); exact ⟨rfl, _, rfl, rfl⟩) rfl ?_ ?_ rfl <;> (simp only [go_sem, reduceIte, exists_eq_left', exists_eq_left, Blk.mk.injEq, hbc, hml] <;> (try and_intros) <;> first | rfl | omega))
  · intro again
    repeat' (first
      | refine WK.seq ?_
      | refine WK.reg ?_
      | refine IL.nil ?_
      | refine WK.skip ?_
      | refine WK.block ?_
      | refine WK.exit_here ?_
      | refine WK.exit_out1 (by decide) ?_
      | refine WK.exit_out2 (by decide) (by decide) ?_
      | (with_reducible refine IL.wr ?_ ?_; (focus (first | exact wrap_i64 (by omega) (by omega) | exact wrap_u64 (by omega) (by omega) | exact wrap_u32 (by omega) (by omega) | exact wrap_u16 (by omega) (by omega) | exact wrap_u8 (by omega) (by omega))))
      | (refine IL.stepg (σ' := ?_) ttok (by first | exact .inl rfl | (refine Gok.mk2 (b := ?_) rfl ?_ ?_; rotate_left 1; (focus rfl); (focus (with_reducible rfl)))) (fun K hK => ?_) ?_; rotate_left 1; (focus (simp only [go_sem, reduceIte, h63]; first | exact hK | (and_intros <;> first | exact hK | omega | assumption | rfl | decide))))
      | (refine IL.no (σ' := ?_) (by first | (refine Gno.mkT (b := ?_) rfl ?_ ?_; rotate_left 1; (focus rfl); (focus (with_reducible rfl))) | (refine Gno.mkF (b := ?_) rfl ?_ ?_; rotate_left 1; (focus rfl); (focus (with_reducible rfl))) | exact Gno.mkU rfl rfl) (fun K hK => ?_) ?_; rotate_left 1; (focus (simp only [go_sem, reduceIte]; exact hK)))
      | ((first | (refine IL.askg (b := ?_) (d := ?_) ?_ ?_ (fun h => ?_) (fun h => ?_); rotate_left 2; (focus rfl); (focus rfl)) | (refine IL.askp (b := ?_) (d := ?_) ?_ ?_ (fun h => ?_) (fun h => ?_); rotate_left 2; (focus rfl); (focus rfl))); (fail_if_success (focus (simp only [reduceCtorEq] at h))); all_goals first | (simp only [Bool.and_eq_true, Bool.and_eq_false_iff, Bool.or_eq_true, Bool.or_eq_false_iff, Bool.not_eq_true', Bool.not_eq_false', beq_iff_eq, beq_eq_false_iff_ne, ne_eq, bne_iff_ne, bne_eq_false_iff_eq, decide_eq_true_eq, decide_eq_false_iff_not, Decidable.not_not] at h; first | done | (exfalso; omega; done) | skip) | skip)
      | (refine WK.cond (b := ?_) ?_ (fun h => ?_) (fun h => ?_); rotate_left 1; (focus rfl); all_goals first | (simp only [reduceCtorEq] at h; done) | (simp only [Bool.and_eq_true, Bool.and_eq_false_iff, Bool.or_eq_true, Bool.or_eq_false_iff, Bool.not_eq_true', Bool.not_eq_false', beq_iff_eq, beq_eq_false_iff_ne, ne_eq, bne_iff_ne, bne_eq_false_iff_eq, decide_eq_true_eq, decide_eq_false_iff_not, Decidable.not_not] at h; first | done | (exfalso; omega; done) | skip) | skip))
    refine WK.label ?_
    refine again _ (l, n0) ⟨rfl, hlt, by simp only; omega⟩ ?_
    (refine Weak.cut' rfl rfl ?_; (first | (simp only [go_sem, reduceIte] <;> (try and_intros) <;> first | rfl | omega | grind)))
theorem wtext_call (l s : List UInt8) (hl : l.length < 2 ^ 45) (hs : s.length < 2 ^ 45) : SCall Tryd.prog 47 [wrO l, .v (.string ⟨s.toArray⟩)] (.tup []) [wrO (l ++ numB s.length ++ s), .v (.string ⟨s.toArray⟩)] := by
  have hnl := numB_le 9 s.length (by omega)
  have hla : (l ++ numB s.length).length ≤ l.length + 10 := by rw [List.length_append]; omega
  have hmod : s.length % 9223372036854775808 = s.length := Nat.mod_eq_of_lt (by omega)
  refine SCall.of_body' (TT := TT) (fun k => decide (k < 1)) [false, false] ttok Tryd.func47 rfl (Nat.le_of_ble_eq_true rfl) rfl fun fx hfx => WK.top ?_
  simp only [impl, imp, argT, List.append_nil, List.map_nil, List.map_cons, List.nil_append, List.cons_append, List.length_cons, List.length_nil, show Tryd.f47.ntmps = 18 from rfl, Nat.zero_add, Nat.reduceAdd]
  repeat' (first
    | refine WK.seq ?_
    | refine WK.reg ?_
    | refine IL.nil ?_
    | refine WK.skip ?_
    | refine WK.block ?_
    | refine WK.exit_here ?_
    | refine WK.exit_out1 (by decide) ?_
    | refine WK.exit_out2 (by decide) (by decide) ?_
    | (with_reducible refine IL.wr ?_ ?_; (focus (first | exact wrap_i64 (by omega) (by omega) | exact wrap_u64 (by omega) (by omega) | exact wrap_u32 (by omega) (by omega) | exact wrap_u16 (by omega) (by omega) | exact wrap_u8 (by omega) (by omega))))
    | (refine IL.stepg (σ' := ?_) ttok (by first | exact .inl rfl | (refine Gok.mk2 (b := ?_) rfl ?_ ?_; rotate_left 1; (focus rfl); (focus (with_reducible rfl)))) (fun K hK => ?_) ?_; rotate_left 1; (focus (simp only [go_sem, reduceIte, hmod]; first | exact hK | (and_intros <;> first | exact hK | omega | assumption | rfl | decide))))
    | (refine IL.no (σ' := ?_) (by first | (refine Gno.mkT (b := ?_) rfl ?_ ?_; rotate_left 1; (focus rfl); (focus (with_reducible rfl))) | (refine Gno.mkF (b := ?_) rfl ?_ ?_; rotate_left 1; (focus rfl); (focus (with_reducible rfl))) | exact Gno.mkU rfl rfl) (fun K hK => ?_) ?_; rotate_left 1; (focus (simp only [go_sem, reduceIte]; exact hK)))
    | (refine IL.callS (f := 28) (xs := ?_) (A := ?_) (A' := ?_) (rr := ?_) (σ' := ?_) (bs := ?_) (ks := ?_) (sets := ?_) (pushes := ?_) ttok ent28 [.own, .bor] true ?_ ?_ ?_ ?_ ?_ ?_ ?_ ?_ ?_ (fun K hK => ?_) ?_; rotate_left 9; (focus (first | exact .inl rfl | (refine Gok.mk2 (b := ?_) rfl ?_ ?_; rotate_left 1; (focus rfl); (focus (with_reducible rfl))))); (focus rfl); (focus (first | rfl | (simp only [go_sem, reduceIte, hmod] <;> rfl))); (focus (refine wnum_call _ _ ?_ ?_ <;> first | omega | assumption | decide | simp)); (focus rfl); (focus rfl); (focus (first | rfl | simp only [go_sem])); (focus (first | rfl | (simp only [go_sem, reduceIte, hmod] <;> rfl))); (focus simp); (focus (simp only [go_sem, reduceIte, hmod]; exact hK)))
    | ((first | (refine IL.askg (b := ?_) (d := ?_) ?_ ?_ (fun h => ?_) (fun h => ?_); rotate_left 2; (focus rfl); (focus rfl)) | (refine IL.askp (b := ?_) (d := ?_) ?_ ?_ (fun h => ?_) (fun h => ?_); rotate_left 2; (focus rfl); (focus rfl))); (fail_if_success (focus (simp only [reduceCtorEq] at h))); all_goals first | (simp only [Bool.and_eq_true, Bool.and_eq_false_iff, Bool.or_eq_true, Bool.or_eq_false_iff, Bool.not_eq_true', Bool.not_eq_false', beq_iff_eq, beq_eq_false_iff_ne, ne_eq, bne_iff_ne, bne_eq_false_iff_eq, decide_eq_true_eq, decide_eq_false_iff_not, Decidable.not_not] at h; first | done | (exfalso; omega; done) | skip) | skip)
    | (refine WK.cond (b := ?_) ?_ (fun h => ?_) (fun h => ?_); rotate_left 1; (focus rfl); all_goals first | (simp only [reduceCtorEq] at h; done) | (simp only [Bool.and_eq_true, Bool.and_eq_false_iff, Bool.or_eq_true, Bool.or_eq_false_iff, Bool.not_eq_true', Bool.not_eq_false', beq_iff_eq, beq_eq_false_iff_ne, ne_eq, bne_iff_ne, bne_eq_false_iff_eq, decide_eq_true_eq, decide_eq_false_iff_not, Decidable.not_not] at h; first | done | (exfalso; omega; done) | skip) | skip))
  all_goals try ((first | refine WK.ret ⟨.inr rfl, Fin.of (q' := ?_) (A2 := ?_) (k1 := ?_) (k2 := ?_) ?_ ?_ ?_ ?_ ?_⟩ | refine ⟨.inl rfl, Fin.of (q' := ?_) (A2 := ?_) (k1 := ?_) (k2 := ?_) ?_ ?_ ?_ ?_ ?_⟩ | refine ⟨.inl trivial, Fin.of (q' := ?_) (A2 := ?_) (k1 := ?_) (k2 := ?_) ?_ ?_ ?_ ?_ ?_⟩); rotate_left 4; (focus (first | rfl | (simp only [go_sem, show Tryd.f47.results.toList = [] from rfl, reduceIte] <;> rfl))); (focus (first | rfl | (simp only [go_sem, reduceIte] <;> rfl))); (focus rfl); rotate_left 1; (focus (first | rfl | skip)); all_goals try with_reducible rfl)
  all_goals (simp [wrO, bcells]; try omega)
theorem putAt_all : ∀ (xs cs : List IV) (o : List IV), xs.length = cs.length → putAt (o ++ cs) o.length xs = o ++ xs
  | [], cs, o, h => by
    have : cs = [] := List.eq_nil_of_length_eq_zero h.symm
    subst this; rfl
  | x :: xs, [], o, h => by simp at h
  | x :: xs, c :: cs, o, h => by
    have hs : (o ++ c :: cs).set o.length x = (o ++ [x]) ++ cs := by simp
    rw [putAt, hs]
    have := putAt_all xs cs (o ++ [x]) (by simpa using h)
    simp only [List.length_append, List.length_cons, List.length_nil, Nat.zero_add] at this
    rw [this]; simp
theorem putAt_zero (xs cs : List IV) (h : xs.length = cs.length) : putAt cs 0 xs = xs := by
  have := putAt_all xs cs [] h
  simpa using this
theorem wbytes_call (l : List UInt8) (hl : l.length < 2 ^ 47) : SCall Tryd.prog 16 [wrO l] (.own 5 l.length true (bcells l)) [wrO l] := by
  have hz : (zrow [.v (.int .u8 0)] l.length).length = l.length := by simp [zrow]
  have hp : putAt (zrow [.v (.int .u8 0)] l.length) 0 (bcells l) = bcells l := putAt_zero _ _ (by rw [bcells_length, hz])
  have hb : (1 : Int) * (l.length : Int) ≤ 281474976710656 := by omega
  refine SCall.of_body' (TT := TT) (fun k => decide (k < 1)) [false] ttok Tryd.func16 rfl (Nat.le_of_ble_eq_true rfl) rfl fun fx hfx => WK.top ?_
  simp only [impl, imp, argT, List.append_nil, List.map_nil, List.map_cons, List.nil_append, List.cons_append, List.length_cons, List.length_nil, show Tryd.f16.ntmps = 17 from rfl, Nat.zero_add, Nat.reduceAdd]
  repeat' (first
    | refine WK.seq ?_
    | refine WK.reg ?_
    | refine IL.nil ?_
    | refine WK.skip ?_
    | refine WK.block ?_
    | refine WK.exit_here ?_
    | refine WK.exit_out1 (by decide) ?_
    | refine WK.exit_out2 (by decide) (by decide) ?_
    | (with_reducible refine IL.wr ?_ ?_; (focus (first | exact wrap_i64 (by omega) (by omega) | exact wrap_u64 (by omega) (by omega) | exact wrap_u32 (by omega) (by omega) | exact wrap_u16 (by omega) (by omega) | exact wrap_u8 (by omega) (by omega))))
    | (refine IL.stepg (σ' := ?_) ttok (by first | exact .inl rfl | (refine Gok.mk2 (b := ?_) rfl ?_ ?_; rotate_left 1; (focus rfl); (focus (with_reducible rfl)))) (fun K hK => ?_) ?_; rotate_left 1; (focus (simp only [go_sem, reduceIte, hp, hb]; first | exact hK | (and_intros <;> first | exact hK | omega | assumption | rfl | decide))))
    | (refine IL.no (σ' := ?_) (by first | (refine Gno.mkT (b := ?_) rfl ?_ ?_; rotate_left 1; (focus rfl); (focus (with_reducible rfl))) | (refine Gno.mkF (b := ?_) rfl ?_ ?_; rotate_left 1; (focus rfl); (focus (with_reducible rfl))) | exact Gno.mkU rfl rfl) (fun K hK => ?_) ?_; rotate_left 1; (focus (simp only [go_sem, reduceIte]; exact hK)))
    | (refine IL.stepX (σ' := ?_) ttok (by first | exact .inl rfl | (refine Gok.mk2 (b := ?_) rfl ?_ ?_; rotate_left 1; (focus rfl); (focus (with_reducible rfl)))) (fun K hK => ?_) ?_; rotate_left 1; (focus (simp only [go_sem, reduceIte, hp, hb]; first | exact hK | (and_intros <;> first | exact hK | omega | assumption | rfl | decide))))
    | ((first | (refine IL.askg (b := ?_) (d := ?_) ?_ ?_ (fun h => ?_) (fun h => ?_); rotate_left 2; (focus rfl); (focus rfl)) | (refine IL.askp (b := ?_) (d := ?_) ?_ ?_ (fun h => ?_) (fun h => ?_); rotate_left 2; (focus rfl); (focus rfl))); (fail_if_success (focus (simp only [reduceCtorEq] at h))); all_goals first | (simp only [Bool.and_eq_true, Bool.and_eq_false_iff, Bool.or_eq_true, Bool.or_eq_false_iff, Bool.not_eq_true', Bool.not_eq_false', beq_iff_eq, beq_eq_false_iff_ne, ne_eq, bne_iff_ne, bne_eq_false_iff_eq, decide_eq_true_eq, decide_eq_false_iff_not, Decidable.not_not] at h; first | done | (exfalso; omega; done) | skip) | skip)
    | (refine WK.cond (b := ?_) ?_ (fun h => ?_) (fun h => ?_); rotate_left 1; (focus rfl); all_goals first | (simp only [reduceCtorEq] at h; done) | (simp only [Bool.and_eq_true, Bool.and_eq_false_iff, Bool.or_eq_true, Bool.or_eq_false_iff, Bool.not_eq_true', Bool.not_eq_false', beq_iff_eq, beq_eq_false_iff_ne, ne_eq, bne_iff_ne, bne_eq_false_iff_eq, decide_eq_true_eq, decide_eq_false_iff_not, Decidable.not_not] at h; first | done | (exfalso; omega; done) | skip) | skip))
  all_goals try ((first | refine WK.ret ⟨.inr rfl, Fin.of (q' := ?_) (A2 := ?_) (k1 := ?_) (k2 := ?_) ?_ ?_ ?_ ?_ ?_⟩ | refine ⟨.inl rfl, Fin.of (q' := ?_) (A2 := ?_) (k1 := ?_) (k2 := ?_) ?_ ?_ ?_ ?_ ?_⟩ | refine ⟨.inl trivial, Fin.of (q' := ?_) (A2 := ?_) (k1 := ?_) (k2 := ?_) ?_ ?_ ?_ ?_ ?_⟩); rotate_left 4; (focus (first | rfl | (simp only [go_sem, show Tryd.f16.results.toList = [.tmp 2] from rfl, reduceIte] <;> rfl))); (focus (first | rfl | (simp only [go_sem, reduceIte] <;> rfl))); (focus rfl); rotate_left 1; (focus (first | rfl | skip)); all_goals try with_reducible rfl)
end Go.Proofs.YtolbmgkoifchfaaDoor
