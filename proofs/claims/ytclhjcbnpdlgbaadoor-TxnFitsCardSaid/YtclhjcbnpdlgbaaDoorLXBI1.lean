/- package ident, and the document's answer for it: what the functions give. -/
import Derived.Test.YtclhjcbnpdlgbaaDoorLXBTT
namespace Go.Proofs.YtclhjcbnpdlgbaaDoor
open Go Go.Lift
set_option linter.unusedSimpArgs false
set_option linter.unusedVariables false
attribute [local irreducible] WK IL IP IG IW DW

abbrev idIV (r n : Int) : IV := .agg [.v (.int .u16 r), .v (.int .u32 n)]
abbrev keyIV (c r n : Int) : IV := .agg [.v (.int .u64 c), .v (.int .u16 r), .v (.int .u32 n)]
theorem idPlus_call (r n k : Int) : SCall Tryd.prog 52 [idIV r n, .v (.int .i64 k)] (idIV r (IntKind.u32.wrap (n + IntKind.u32.wrap k))) [idIV r n, .v (.int .i64 k)] := by
  refine SCall.of_body' (TT := TT) (fun _ => false) [false, false] ttok Tryd.func52 rfl (Nat.le_of_ble_eq_true rfl) rfl fun fx hfx => WK.top ?_
  simp only [impl, imp, argT, List.append_nil, List.map_nil, List.nil_append, show Tryd.f52.ntmps = 13 from rfl, Nat.zero_add, Nat.reduceAdd]
  repeat' (first | refine WK.seq ?_ | refine WK.reg ?_ | refine IL.nil ?_ | refine WK.skip ?_ | refine WK.block ?_ | refine WK.exit_here ?_ | refine WK.exit_out1 (by decide) ?_ | refine WK.exit_out2 (by decide) (by decide) ?_ | (with_reducible refine IL.wr ?_ ?_; (focus (first | exact wrap_i64 (by omega) (by omega) | exact wrap_u64 (by omega) (by omega) | exact wrap_u32 (by omega) (by omega) | exact wrap_u16 (by omega) (by omega) | exact wrap_u8 (by omega) (by omega)))) | (refine IL.stepg (σ' := ?_) ttok (by first | exact .inl rfl | (refine Gok.mk2 (b := ?_) rfl ?_ ?_; rotate_left 1; (focus rfl); (focus (with_reducible rfl)))) (fun K hK => ?_) ?_; rotate_left 1; (focus (simp only [go_sem, reduceIte]; first | exact hK | (and_intros <;> first | exact hK | omega | assumption | rfl | decide)))) | (refine IL.no (σ' := ?_) (by first | (refine Gno.mkT (b := ?_) rfl ?_ ?_; rotate_left 1; (focus rfl); (focus (with_reducible rfl))) | (refine Gno.mkF (b := ?_) rfl ?_ ?_; rotate_left 1; (focus rfl); (focus (with_reducible rfl))) | exact Gno.mkU rfl rfl) (fun K hK => ?_) ?_; rotate_left 1; (focus (simp only [go_sem, reduceIte]; exact hK))) | (refine WK.cond (b := ?_) ?_ (fun h => ?_) (fun h => ?_); rotate_left 1; (focus rfl); all_goals first | (simp only [reduceCtorEq] at h; done) | (simp only [Bool.and_eq_true, Bool.and_eq_false_iff, Bool.or_eq_true, Bool.or_eq_false_iff, Bool.not_eq_true', Bool.not_eq_false', beq_iff_eq, beq_eq_false_iff_ne, ne_eq, bne_iff_ne, bne_eq_false_iff_eq, decide_eq_true_eq, decide_eq_false_iff_not, Decidable.not_not] at h; first | done | (exfalso; omega; done) | skip) | skip))
  all_goals try ((first | refine WK.ret ⟨.inr rfl, Fin.of (q' := ?_) (A2 := ?_) (k1 := ?_) (k2 := ?_) ?_ ?_ ?_ ?_ ?_⟩ | refine ⟨.inl rfl, Fin.of (q' := ?_) (A2 := ?_) (k1 := ?_) (k2 := ?_) ?_ ?_ ?_ ?_ ?_⟩ | refine ⟨.inl trivial, Fin.of (q' := ?_) (A2 := ?_) (k1 := ?_) (k2 := ?_) ?_ ?_ ?_ ?_ ?_⟩); rotate_left 4; (focus (first | rfl | (simp only [go_sem, show Tryd.f52.results.toList = [.cell 4 25] from rfl, reduceIte] <;> rfl))); (focus (first | rfl | (simp only [go_sem, reduceIte] <;> rfl))); (focus rfl); rotate_left 1; (focus (first | rfl | skip)); all_goals try with_reducible rfl)
  all_goals first | (refine Weak.cut' rfl rfl ?_; (first | (simp only [go_sem, reduceIte] <;> (try and_intros) <;> first | rfl | omega | grind))) | (refine ⟨?_, ?_⟩; rotate_left 1; (focus (refine Weak.cut' rfl rfl ?_; (first | (simp only [go_sem, reduceIte] <;> (try and_intros) <;> first | rfl | omega | grind)))); grind) | grind
theorem idPlus_in (r n k : Int) (h0 : 0 ≤ n) (h1 : 0 ≤ k) (h2 : n + k ≤ 4294967295) : SCall Tryd.prog 52 [idIV r n, .v (.int .i64 k)] (idIV r (n + k)) [idIV r n, .v (.int .i64 k)] := by
  have h := idPlus_call r n k
  rw [wrap_u32 (n := k) (by omega) (by omega), wrap_u32 (n := n + k) (by omega) (by omega)] at h
  exact h
end Go.Proofs.YtclhjcbnpdlgbaaDoor
