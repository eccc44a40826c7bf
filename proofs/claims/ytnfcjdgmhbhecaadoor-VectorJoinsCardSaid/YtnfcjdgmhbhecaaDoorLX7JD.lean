/- package vector: With, Join. -/
import Derived.Test.YtnfcjdgmhbhecaaDoorLX7JB
import Derived.Test.YtnfcjdgmhbhecaaDoorLX7JC
namespace Go.Proofs.YtnfcjdgmhbhecaaDoor
open Go Go.Lift
set_option maxHeartbeats 4000000
set_option linter.unusedSimpArgs false
set_option linter.unusedVariables false
attribute [local irreducible] WK IL IP IG IW DW

theorem clone0_call : SCall Tryd.prog 72 [.tr 0 []] (.own 118 0 true []) [.tr 0 []] := by
  refine SCall.of_body' (TT := TT) (fun _ => false) [false] ttok Tryd.func72 rfl (Nat.le_of_ble_eq_true rfl) rfl fun fx hfx => WK.top ?_
  simp only [impl, imp, argT, List.append_nil, List.map_nil, List.nil_append, show Tryd.f72.ntmps = 8 from rfl, Nat.zero_add, Nat.reduceAdd]
  refine WK.seq ?_
  repeat' (first | refine WK.seq ?_ | refine WK.reg ?_ | refine IL.nil ?_ | refine WK.skip ?_ | refine WK.block ?_ | refine WK.exit_here ?_ | refine WK.exit_out1 (by decide) ?_ | refine WK.exit_out2 (by decide) (by decide) ?_ | (with_reducible refine IL.wr ?_ ?_; (focus (first | exact wrap_i64 (by omega) (by omega) | exact wrap_u64 (by omega) (by omega) | exact wrap_u32 (by omega) (by omega) | exact wrap_u16 (by omega) (by omega) | exact wrap_u8 (by omega) (by omega)))) | (refine IL.stepg (σ' := ?_) ttok (by first | exact .inl rfl | (refine Gok.mk2 (b := ?_) rfl ?_ ?_; rotate_left 1; (focus rfl); (focus (with_reducible rfl)))) (fun K hK => ?_) ?_; rotate_left 1; (focus (simp only [go_sem, reduceIte]; first | exact hK | (and_intros <;> first | exact hK | omega | assumption | rfl | decide)))) | (refine IL.no (σ' := ?_) (by first | (refine Gno.mkT (b := ?_) rfl ?_ ?_; rotate_left 1; (focus rfl); (focus (with_reducible rfl))) | (refine Gno.mkF (b := ?_) rfl ?_ ?_; rotate_left 1; (focus rfl); (focus (with_reducible rfl))) | exact Gno.mkU rfl rfl) (fun K hK => ?_) ?_; rotate_left 1; (focus (simp only [go_sem, reduceIte]; exact hK))) | ((first | ((first | (refine IL.askg (b := ?_) (d := ?_) ?_ ?_ (fun h => ?_) (fun h => ?_); rotate_left 2; (focus rfl); (focus rfl)) | (refine IL.askp (b := ?_) (d := ?_) ?_ ?_ (fun h => ?_) (fun h => ?_); rotate_left 2; (focus rfl); (focus rfl))); (fail_if_success (focus (simp only [reduceCtorEq] at h)))) | (refine WK.cond (b := ?_) ?_ (fun h => ?_) (fun h => ?_); rotate_left 1; (focus rfl))); all_goals first | (simp only [reduceCtorEq] at h; done) | (simp only [Bool.and_eq_true, Bool.and_eq_false_iff, Bool.or_eq_true, Bool.or_eq_false_iff, Bool.not_eq_true', Bool.not_eq_false', beq_iff_eq, beq_eq_false_iff_ne, ne_eq, bne_iff_ne, bne_eq_false_iff_eq, decide_eq_true_eq, decide_eq_false_iff_not, Decidable.not_not] at h; first | done | (exfalso; omega; done) | skip) | skip))
  refine IL.nilcmpU (σ' := ?_) ttok (.inl rfl) rfl rfl rfl rfl (fun b K hK => ?_) (fun b => ?_); rotate_left 1
  · simp only [go_sem]; exact hK
  repeat' (first | refine WK.seq ?_ | refine WK.reg ?_ | refine IL.nil ?_ | refine WK.skip ?_ | refine WK.block ?_ | refine WK.exit_here ?_ | refine WK.exit_out1 (by decide) ?_ | refine WK.exit_out2 (by decide) (by decide) ?_ | (with_reducible refine IL.wr ?_ ?_; (focus (first | exact wrap_i64 (by omega) (by omega) | exact wrap_u64 (by omega) (by omega) | exact wrap_u32 (by omega) (by omega) | exact wrap_u16 (by omega) (by omega) | exact wrap_u8 (by omega) (by omega)))) | (refine IL.stepg (σ' := ?_) ttok (by first | exact .inl rfl | (refine Gok.mk2 (b := ?_) rfl ?_ ?_; rotate_left 1; (focus rfl); (focus (with_reducible rfl)))) (fun K hK => ?_) ?_; rotate_left 1; (focus (simp only [go_sem, reduceIte]; first | exact hK | (and_intros <;> first | exact hK | omega | assumption | rfl | decide)))) | (refine IL.no (σ' := ?_) (by first | (refine Gno.mkT (b := ?_) rfl ?_ ?_; rotate_left 1; (focus rfl); (focus (with_reducible rfl))) | (refine Gno.mkF (b := ?_) rfl ?_ ?_; rotate_left 1; (focus rfl); (focus (with_reducible rfl))) | exact Gno.mkU rfl rfl) (fun K hK => ?_) ?_; rotate_left 1; (focus (simp only [go_sem, reduceIte]; exact hK))) | ((first | ((first | (refine IL.askg (b := ?_) (d := ?_) ?_ ?_ (fun h => ?_) (fun h => ?_); rotate_left 2; (focus rfl); (focus rfl)) | (refine IL.askp (b := ?_) (d := ?_) ?_ ?_ (fun h => ?_) (fun h => ?_); rotate_left 2; (focus rfl); (focus rfl))); (fail_if_success (focus (simp only [reduceCtorEq] at h)))) | (refine WK.cond (b := ?_) ?_ (fun h => ?_) (fun h => ?_); rotate_left 1; (focus rfl))); all_goals first | (simp only [reduceCtorEq] at h; done) | (simp only [Bool.and_eq_true, Bool.and_eq_false_iff, Bool.or_eq_true, Bool.or_eq_false_iff, Bool.not_eq_true', Bool.not_eq_false', beq_iff_eq, beq_eq_false_iff_ne, ne_eq, bne_iff_ne, bne_eq_false_iff_eq, decide_eq_true_eq, decide_eq_false_iff_not, Decidable.not_not] at h; first | done | (exfalso; omega; done) | skip) | skip))
  all_goals try ((first | refine WK.ret ⟨.inr rfl, Fin.of (q' := ?_) (A2 := ?_) (k1 := ?_) (k2 := ?_) ?_ ?_ ?_ ?_ ?_⟩ | refine ⟨.inl rfl, Fin.of (q' := ?_) (A2 := ?_) (k1 := ?_) (k2 := ?_) ?_ ?_ ?_ ?_ ?_⟩ | refine ⟨.inl trivial, Fin.of (q' := ?_) (A2 := ?_) (k1 := ?_) (k2 := ?_) ?_ ?_ ?_ ?_ ?_⟩); rotate_left 4; (focus (first | rfl | (simp only [go_sem, show Tryd.f72.results.toList = [.tmp 2] from rfl, reduceIte] <;> rfl))); (focus (first | rfl | (simp only [go_sem, reduceIte] <;> rfl))); (focus rfl); rotate_left 1; (focus (first | rfl | skip)); all_goals try with_reducible rfl)
  all_goals skip
theorem clone_any (l : List Ve) (hl : l.length ≤ 1000000) : SCall Tryd.prog 72 [.tr l.length (encs veC l)] (.own 118 l.length true (encs veC l)) [.tr l.length (encs veC l)] := by
  cases l with
  | nil => exact clone0_call
  | cons a l => exact clone_call _ (by simp) (by omega)
set_option maxRecDepth 100000 in
theorem info118 : ∃ i, (Tryd.prog).info? 118 = some i ∧ i.size = 2 ∧ i.zero = some (.agg #[.int .u16 0, .int .u32 0]) ∧ i.bytes = 8 := ⟨_, rfl, rfl, rfl, rfl⟩
theorem vins_call (l : List Ve) (x : Ve) (i : Nat) (hi : i ≤ l.length) (hn : l.length ≤ 1000000) :
    SCall Tryd.prog 75 [.own 118 l.length true (encs veC l), .v (.int .i64 i), .own 118 1 true [.v (.int .u16 x.1), .v (.int .u32 x.2)]]
      (.own 118 (l.length + 1) true (encs veC (l.take i ++ ([x] ++ l.drop i)))) [.gone, .v (.int .i64 i), .gone] := by
  obtain ⟨ie, h1, h2, h3, h4⟩ := info118
  have h := SCall.of_insert (P := Tryd.prog) (f := 75) (tS := 58) (tV := 57) (tI := 3) (kn := .i64) h1 h2 (by decide) h3 rfl (by kernel_rfl) (by kernel_rfl) (by kernel_rfl)
    ins_shift ins_end ins_grow i l.length 1 true (encs veC l) [.v (.int .u16 x.1), .v (.int .u32 x.2)] hi (by decide) (by simp only [maxLen]; omega) (by rw [h4]; omega)
  have e : (encs veC l).take (i * 2) ++ [.v (.int .u16 x.1), .v (.int .u32 x.2)] ++ (encs veC l).drop (i * 2) = encs veC (l.take i ++ ([x] ++ l.drop i)) := by
    rw [encs_take veC_length, encs_drop veC_length, List.append_assoc, ← encs_append, ← encs_append]; rfl
  rw [e] at h
  exact h
theorem vdel_call (l : List Ve) (i : Nat) (hi : i < l.length) (hn : l.length ≤ 1000000) :
    SCall Tryd.prog 74 [.own 118 l.length true (encs veC l), .v (.int .i64 i), .v (.int .i64 ((i : Int) + 1))]
      (.own 118 (i + (l.length - (i + 1))) true (encs veC (l.take i ++ l.drop (i + 1)))) [.gone, .v (.int .i64 i), .v (.int .i64 ((i : Int) + 1))] := by
  obtain ⟨ie, h1, h2, h3, h4⟩ := info118
  have h := SCall.of_delete (P := Tryd.prog) (f := 74) (tS := 58) h1 h2 (by decide) h3 rfl (by decide) (by kernel_rfl)
    del_walk i (i + 1) l.length true (encs veC l) (by omega) (by omega)
  have e : (encs veC l).take (i * 2) ++ (encs veC l).drop ((i + 1) * 2) = encs veC (l.take i ++ l.drop (i + 1)) := by
    rw [encs_take veC_length, encs_drop veC_length, ← encs_append]
  rw [e, show ((i + 1 : Nat) : Int) = (i : Int) + 1 by omega] at h
  exact h
end Go.Proofs.YtnfcjdgmhbhecaaDoor
