/- package span: which spans are right; their bytes. -/
import Derived.Test.YtclhjcbnpdlgbaaDoorLXBS1
import Derived.Test.YtclhjcbnpdlgbaaDoorLXBP5
import Derived.Test.YtclhjcbnpdlgbaaDoorLA3
namespace Go.Proofs.YtclhjcbnpdlgbaaDoor
open Go Go.Lift
set_option maxHeartbeats 4000000
set_option linter.unusedSimpArgs false
set_option linter.unusedVariables false
attribute [local irreducible] WK IL IP IG IW DW

def rightI (s : Sp) : Prop := 1 ≤ s.2.1 ∧ 1 ≤ s.2.2 ∧ s.2.2 ≤ 1024 ∧ s.2.1 ≤ 268435456 ∧ s.2.1 + s.2.2 - 1 ≤ 268435456
instance (s : Sp) : Decidable (rightI s) := by unfold rightI; infer_instance
theorem refRight_call (s : Sp) : SCall Tryd.prog 38 [.agg (spC s)] (.v (.bool (decide (rightI s)))) [.agg (spC s)] := by
  obtain ⟨r, n, c⟩ := s
  unfold spC
  refine SCall.of_body' (TT := TT) (fun _ => false) [false] ttok Tryd.func38 rfl (Nat.le_of_ble_eq_true rfl) rfl fun fx hfx => WK.top ?_
  simp only [impl, imp, argT, List.append_nil, List.map_nil, List.nil_append, show Tryd.f38.ntmps = 34 from rfl, Nat.zero_add, Nat.reduceAdd]
  repeat' (first | refine WK.seq ?_ | refine WK.reg ?_ | refine IL.nil ?_ | refine WK.skip ?_ | refine WK.block ?_ | refine WK.exit_here ?_ | refine WK.exit_out1 (by decide) ?_ | refine WK.exit_out2 (by decide) (by decide) ?_ | (with_reducible refine IL.wr ?_ ?_; (focus (first | exact wrap_i64 (by omega) (by omega) | exact wrap_u64 (by omega) (by omega) | exact wrap_u32 (by omega) (by omega) | exact wrap_u16 (by omega) (by omega) | exact wrap_u8 (by omega) (by omega)))) | (refine IL.stepg (σ' := ?_) ttok (by first | exact .inl rfl | (refine Gok.mk2 (b := ?_) rfl ?_ ?_; rotate_left 1; (focus rfl); (focus (with_reducible rfl)))) (fun K hK => ?_) ?_; rotate_left 1; (focus (simp only [go_sem, reduceIte]; first | exact hK | (and_intros <;> first | exact hK | omega | assumption | rfl | decide)))) | (refine IL.no (σ' := ?_) (by first | (refine Gno.mkT (b := ?_) rfl ?_ ?_; rotate_left 1; (focus rfl); (focus (with_reducible rfl))) | (refine Gno.mkF (b := ?_) rfl ?_ ?_; rotate_left 1; (focus rfl); (focus (with_reducible rfl))) | exact Gno.mkU rfl rfl) (fun K hK => ?_) ?_; rotate_left 1; (focus (simp only [go_sem, reduceIte]; exact hK))) | ((first | ((first | (refine IL.askg (b := ?_) (d := ?_) ?_ ?_ (fun h => ?_) (fun h => ?_); rotate_left 2; (focus rfl); (focus rfl)) | (refine IL.askp (b := ?_) (d := ?_) ?_ ?_ (fun h => ?_) (fun h => ?_); rotate_left 2; (focus rfl); (focus rfl))); (fail_if_success (focus (simp only [reduceCtorEq] at h)))) | (refine WK.cond (b := ?_) ?_ (fun h => ?_) (fun h => ?_); rotate_left 1; (focus rfl))); all_goals first | (simp only [reduceCtorEq] at h; done) | (simp only [Bool.and_eq_true, Bool.and_eq_false_iff, Bool.or_eq_true, Bool.or_eq_false_iff, Bool.not_eq_true', Bool.not_eq_false', beq_iff_eq, beq_eq_false_iff_ne, ne_eq, bne_iff_ne, bne_eq_false_iff_eq, decide_eq_true_eq, decide_eq_false_iff_not, Decidable.not_not] at h; first | done | (exfalso; omega; done) | skip) | skip))
  all_goals try ((first | refine WK.ret ⟨.inr rfl, Fin.of (q' := ?_) (A2 := ?_) (k1 := ?_) (k2 := ?_) ?_ ?_ ?_ ?_ ?_⟩ | refine ⟨.inl rfl, Fin.of (q' := ?_) (A2 := ?_) (k1 := ?_) (k2 := ?_) ?_ ?_ ?_ ?_ ?_⟩ | refine ⟨.inl trivial, Fin.of (q' := ?_) (A2 := ?_) (k1 := ?_) (k2 := ?_) ?_ ?_ ?_ ?_ ?_⟩); rotate_left 4; (focus (first | rfl | (simp only [go_sem, show Tryd.f38.results.toList = [.tmp 2] from rfl, reduceIte] <;> rfl))); (focus (first | rfl | (simp only [go_sem, reduceIte] <;> rfl))); (focus rfl); rotate_left 1; (focus (first | rfl | skip)); all_goals try with_reducible rfl)
  all_goals grind [rightI]
def tot (l : List Sp) : Int := (l.map fun s => s.2.2).sum
def rightAll (l : List Sp) : Prop := (∀ s ∈ l, rightI s) ∧ (∀ k, k ≤ l.length → tot (l.take k) ≤ 1500) ∧ l.length ≤ 60
theorem tot_snoc (l : List Sp) (s : Sp) : tot (l ++ [s]) = tot l + s.2.2 := by simp [tot]
/-- a span's bytes, the bytes of spans -/
def spB (s : Sp) : List UInt8 := numB s.1.toNat ++ (numB s.2.1.toNat ++ numB s.2.2.toNat)
def spsB (l : List Sp) : List UInt8 := l.flatMap spB
def spansB (l : List Sp) : List UInt8 := numB l.length ++ spsB l
/-- a span whose parts fit -/
def fits (s : Sp) : Prop := 0 ≤ s.1 ∧ s.1 ≤ 65535 ∧ 1 ≤ s.2.1 ∧ s.2.1 ≤ 268435456 ∧ 1 ≤ s.2.2 ∧ s.2.2 ≤ 1024
theorem fits_nat {s : Sp} (h : fits s) : ∃ a b c : Nat, s = ((a : Int), (b : Int), (c : Int)) ∧ a ≤ 65535 ∧ 1 ≤ b ∧ b ≤ 268435456 ∧ 1 ≤ c ∧ c ≤ 1024 := by
  obtain ⟨x, y, z⟩ := s
  obtain ⟨h1, h2, h3, h4, h5, h6⟩ := h
  simp only at h1 h2 h3 h4 h5 h6
  refine ⟨x.toNat, y.toNat, z.toNat, ?_, by omega, by omega, by omega, by omega, by omega⟩
  rw [Int.toNat_of_nonneg h1, Int.toNat_of_nonneg (by omega), Int.toNat_of_nonneg (by omega)]
theorem spsB_take (l : List Sp) (k : Nat) (s : Sp) (hx : l[k]? = some s) : spsB (l.take (k + 1)) = spsB (l.take k) ++ spB s := by
  rw [List.take_add_one, hx]; simp [spsB]
theorem spB_len {s : Sp} (h : fits s) : (spB s).length ≤ 30 := by
  obtain ⟨a, b, c, rfl, h1, h2, h3, h4, h5⟩ := fits_nat h
  have e1 := numB_le 9 a (by omega)
  have e2 := numB_le 9 b (by omega)
  have e3 := numB_le 9 c (by omega)
  simp only [spB, List.length_append, Int.toNat_natCast]; omega
theorem spsB_len (l : List Sp) (h : ∀ s ∈ l, fits s) : (spsB l).length ≤ l.length * 30 := by
  induction l with
  | nil => simp [spsB]
  | cons s l ih =>
    have h1 := spB_len (h s (by simp))
    have h2 := ih fun s hs => h s (by simp [hs])
    simp only [spsB, List.flatMap_cons, List.length_append, List.length_cons] at h2 ⊢
    omega
end Go.Proofs.YtclhjcbnpdlgbaaDoor
