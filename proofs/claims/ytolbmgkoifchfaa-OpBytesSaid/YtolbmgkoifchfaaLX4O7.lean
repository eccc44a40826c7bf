/- The document's Fit of an operation. -/
import Derived.Test.YtolbmgkoifchfaaLX4O6
namespace Go.Proofs.Ytolbmgkoifchfaa
open Go Go.Lift
set_option maxHeartbeats 4000000
set_option linter.unusedSimpArgs false
set_option linter.unusedVariables false
attribute [local irreducible] WK IL IP IG IW DW

def plainT (t : List UInt8) : Prop := ∀ c ∈ t, c.toNat = 10 ∨ (32 ≤ c.toNat ∧ c.toNat ≤ 126)
instance (t : List UInt8) : Decidable (plainT t) := by unfold plainT; infer_instance
theorem plain_call (t : List UInt8) (ht : t.length ≤ 100000) : SCall Try.prog 24 [.v (.string ⟨t.toArray⟩)] (.v (.bool (decide (plainT t)))) [.v (.string ⟨t.toArray⟩)] := by
  refine SCall.of_body' (TT := TT) (fun _ => false) [false] ttok Try.func24 rfl (Nat.le_of_ble_eq_true rfl) rfl fun fx hfx => WK.top ?_
  simp only [impl, imp, argT, List.append_nil, List.map_nil, List.nil_append, show Try.f24.ntmps = 26 from rfl, Nat.zero_add, Nat.reduceAdd]
  repeat' (first
    | refine WK.seq ?_
    | refine WK.reg ?_
    | refine IL.nil ?_
    | refine WK.skip ?_
    | refine WK.block ?_
    | refine WK.exit_here ?_
    | refine WK.exit_out1 (by decide) ?_
    | refine WK.exit_out2 (by decide) (by decide) ?_
    | (with_reducible refine IL.wr ?_ ?_; (focus (first | exact wrap_i64 (by omega) (by omega) | exact wrap_u64 (by omega) (by omega) | exact wrap_u32 (by omega) (by omega) | exact wrap_u16 (by omega) (by omega) | exact wrap_u8 (by omega) (by omega))))
    | (refine IL.stepg (σ' := ?_) ttok (by first | exact .inl rfl | (refine Gok.mk2 (b := ?_) rfl ?_ ?_; rotate_left 1; (focus rfl); (focus (with_reducible rfl)))) (fun K hK => ?_) ?_; rotate_left 1; (focus (simp only [go_sem, reduceIte]; first | exact hK | (and_intros <;> first | exact hK | omega | assumption | rfl | decide))))
    | (refine IL.no (σ' := ?_) (by first | (refine Gno.mkT (b := ?_) rfl ?_ ?_; rotate_left 1; (focus rfl); (focus (with_reducible rfl))) | (refine Gno.mkF (b := ?_) rfl ?_ ?_; rotate_left 1; (focus rfl); (focus (with_reducible rfl))) | exact Gno.mkU rfl rfl) (fun K hK => ?_) ?_; rotate_left 1; (focus (simp only [go_sem, reduceIte]; exact hK)))
    | ((first | (refine IL.askg (b := ?_) (d := ?_) ?_ ?_ (fun h => ?_) (fun h => ?_); rotate_left 2; (focus rfl); (focus rfl)) | (refine IL.askp (b := ?_) (d := ?_) ?_ ?_ (fun h => ?_) (fun h => ?_); rotate_left 2; (focus rfl); (focus rfl))); (fail_if_success (focus (simp only [reduceCtorEq] at h))); all_goals first | (simp only [Bool.and_eq_true, Bool.and_eq_false_iff, Bool.or_eq_true, Bool.or_eq_false_iff, Bool.not_eq_true', Bool.not_eq_false', beq_iff_eq, beq_eq_false_iff_ne, ne_eq, bne_iff_ne, bne_eq_false_iff_eq, decide_eq_true_eq, decide_eq_false_iff_not, Decidable.not_not] at h; first | done | (exfalso; omega; done) | skip) | skip)
    | (refine WK.cond (b := ?_) ?_ (fun h => ?_) (fun h => ?_); rotate_left 1; (focus rfl); all_goals first | (simp only [reduceCtorEq] at h; done) | (simp only [Bool.and_eq_true, Bool.and_eq_false_iff, Bool.or_eq_true, Bool.or_eq_false_iff, Bool.not_eq_true', Bool.not_eq_false', beq_iff_eq, beq_eq_false_iff_ne, ne_eq, bne_iff_ne, bne_eq_false_iff_eq, decide_eq_true_eq, decide_eq_false_iff_not, Decidable.not_not] at h; first | done | (exfalso; omega; done) | skip) | skip))
  refine WK.forS t.length (fun i => plainT (t.take i)) (fun i => ⟨26, [(0, .v (.string ⟨t.toArray⟩)), (3, .v (.int .i64 i))], []⟩) ⟨by simp [plainT], ?_⟩ (fun i hi ho => ?_) (fun ho => ?_)
  · (refine Weak.cut' rfl rfl ?_; (first | (simp only [go_sem, reduceIte] <;> (try and_intros) <;> first | rfl | omega | grind)))
  · have hx : t[i]? = some t[i] := List.getElem?_eq_getElem hi
    have htk : t.take (i + 1) = t.take i ++ [t[i]] := by rw [List.take_add_one, hx]; rfl
    have hbad : ¬ (t[i].toNat = 10 ∨ (32 ≤ t[i].toNat ∧ t[i].toNat ≤ 126)) → ¬ plainT t := fun h hp => h (hp _ (List.getElem_mem hi))
    have hgo : (t[i].toNat = 10 ∨ (32 ≤ t[i].toNat ∧ t[i].toNat ≤ 126)) → plainT (t.take (i + 1)) := fun h c hc => by
      rw [htk] at hc
      rcases List.mem_append.1 hc with hc | hc
      · exact ho c hc
      · simp only [List.mem_cons, List.not_mem_nil, or_false] at hc; subst hc; exact h
    have hgd : t.getD i 0 = t[i] := by simp [List.getD, hx]
    rw [← hgd] at hbad hgo
    have hc := (t.getD i 0).toNat_lt
    repeat' (first
      | refine WK.seq ?_
      | refine WK.reg ?_
      | refine IL.nil ?_
      | refine WK.skip ?_
      | refine WK.block ?_
      | refine WK.exit_here ?_
      | refine WK.exit_out1 (by decide) ?_
      | refine WK.exit_out2 (by decide) (by decide) ?_
      | (with_reducible refine IL.wr ?_ ?_; (focus (first | exact wrap_i64 (by omega) (by omega) | exact wrap_u64 (by omega) (by omega) | exact wrap_u32 (by omega) (by omega) | exact wrap_u16 (by omega) (by omega) | exact wrap_u8 (by omega) (by omega))))
      | (refine IL.stepg (σ' := ?_) ttok (by first | exact .inl rfl | (refine Gok.mk2 (b := ?_) rfl ?_ ?_; rotate_left 1; (focus rfl); (focus (with_reducible rfl)))) (fun K hK => ?_) ?_; rotate_left 1; (focus (simp only [go_sem, reduceIte]; first | exact hK | (and_intros <;> first | exact hK | omega | assumption | rfl | decide))))
      | (refine IL.no (σ' := ?_) (by first | (refine Gno.mkT (b := ?_) rfl ?_ ?_; rotate_left 1; (focus rfl); (focus (with_reducible rfl))) | (refine Gno.mkF (b := ?_) rfl ?_ ?_; rotate_left 1; (focus rfl); (focus (with_reducible rfl))) | exact Gno.mkU rfl rfl) (fun K hK => ?_) ?_; rotate_left 1; (focus (simp only [go_sem, reduceIte]; exact hK)))
      | ((first | (refine IL.askg (b := ?_) (d := ?_) ?_ ?_ (fun h => ?_) (fun h => ?_); rotate_left 2; (focus rfl); (focus rfl)) | (refine IL.askp (b := ?_) (d := ?_) ?_ ?_ (fun h => ?_) (fun h => ?_); rotate_left 2; (focus rfl); (focus rfl))); (fail_if_success (focus (simp only [reduceCtorEq] at h))); all_goals first | (simp only [Bool.and_eq_true, Bool.and_eq_false_iff, Bool.or_eq_true, Bool.or_eq_false_iff, Bool.not_eq_true', Bool.not_eq_false', beq_iff_eq, beq_eq_false_iff_ne, ne_eq, bne_iff_ne, bne_eq_false_iff_eq, decide_eq_true_eq, decide_eq_false_iff_not, Decidable.not_not] at h; first | done | (exfalso; omega; done) | skip) | skip)
      | (refine WK.cond (b := ?_) ?_ (fun h => ?_) (fun h => ?_); rotate_left 1; (focus rfl); all_goals first | (simp only [reduceCtorEq] at h; done) | (simp only [Bool.and_eq_true, Bool.and_eq_false_iff, Bool.or_eq_true, Bool.or_eq_false_iff, Bool.not_eq_true', Bool.not_eq_false', beq_iff_eq, beq_eq_false_iff_ne, ne_eq, bne_iff_ne, bne_eq_false_iff_eq, decide_eq_true_eq, decide_eq_false_iff_not, Decidable.not_not] at h; first | done | (exfalso; omega; done) | skip) | skip))
    all_goals try ((first | refine WK.ret ⟨.inr rfl, Fin.of (q' := ?_) (A2 := ?_) (k1 := ?_) (k2 := ?_) ?_ ?_ ?_ ?_ ?_⟩ | refine ⟨.inl rfl, Fin.of (q' := ?_) (A2 := ?_) (k1 := ?_) (k2 := ?_) ?_ ?_ ?_ ?_ ?_⟩ | refine ⟨.inl trivial, Fin.of (q' := ?_) (A2 := ?_) (k1 := ?_) (k2 := ?_) ?_ ?_ ?_ ?_ ?_⟩); rotate_left 4; (focus (first | rfl | (simp only [go_sem, show Try.f24.results.toList = [.tmp 2] from rfl, reduceIte] <;> rfl))); (focus (first | rfl | (simp only [go_sem, reduceIte] <;> rfl))); (focus rfl); rotate_left 1; (focus (first | rfl | skip)); all_goals try with_reducible rfl)
    all_goals first | rw [decide_eq_false (hbad (by omega))] | (refine ⟨hgo (by omega), ?_⟩; (refine Weak.cut' rfl rfl ?_; (first | (simp only [go_sem, reduceIte] <;> (try and_intros) <;> first | rfl | omega | grind))))
  · rw [List.take_length] at ho
    repeat' (first
      | refine WK.seq ?_
      | refine WK.reg ?_
      | refine IL.nil ?_
      | refine WK.skip ?_
      | refine WK.block ?_
      | refine WK.exit_here ?_
      | refine WK.exit_out1 (by decide) ?_
      | refine WK.exit_out2 (by decide) (by decide) ?_
      | (with_reducible refine IL.wr ?_ ?_; (focus (first | exact wrap_i64 (by omega) (by omega) | exact wrap_u64 (by omega) (by omega) | exact wrap_u32 (by omega) (by omega) | exact wrap_u16 (by omega) (by omega) | exact wrap_u8 (by omega) (by omega))))
      | (refine IL.stepg (σ' := ?_) ttok (by first | exact .inl rfl | (refine Gok.mk2 (b := ?_) rfl ?_ ?_; rotate_left 1; (focus rfl); (focus (with_reducible rfl)))) (fun K hK => ?_) ?_; rotate_left 1; (focus (simp only [go_sem, reduceIte]; first | exact hK | (and_intros <;> first | exact hK | omega | assumption | rfl | decide))))
      | (refine IL.no (σ' := ?_) (by first | (refine Gno.mkT (b := ?_) rfl ?_ ?_; rotate_left 1; (focus rfl); (focus (with_reducible rfl))) | (refine Gno.mkF (b := ?_) rfl ?_ ?_; rotate_left 1; (focus rfl); (focus (with_reducible rfl))) | exact Gno.mkU rfl rfl) (fun K hK => ?_) ?_; rotate_left 1; (focus (simp only [go_sem, reduceIte]; exact hK)))
      | ((first | (refine IL.askg (b := ?_) (d := ?_) ?_ ?_ (fun h => ?_) (fun h => ?_); rotate_left 2; (focus rfl); (focus rfl)) | (refine IL.askp (b := ?_) (d := ?_) ?_ ?_ (fun h => ?_) (fun h => ?_); rotate_left 2; (focus rfl); (focus rfl))); (fail_if_success (focus (simp only [reduceCtorEq] at h))); all_goals first | (simp only [Bool.and_eq_true, Bool.and_eq_false_iff, Bool.or_eq_true, Bool.or_eq_false_iff, Bool.not_eq_true', Bool.not_eq_false', beq_iff_eq, beq_eq_false_iff_ne, ne_eq, bne_iff_ne, bne_eq_false_iff_eq, decide_eq_true_eq, decide_eq_false_iff_not, Decidable.not_not] at h; first | done | (exfalso; omega; done) | skip) | skip)
      | (refine WK.cond (b := ?_) ?_ (fun h => ?_) (fun h => ?_); rotate_left 1; (focus rfl); all_goals first | (simp only [reduceCtorEq] at h; done) | (simp only [Bool.and_eq_true, Bool.and_eq_false_iff, Bool.or_eq_true, Bool.or_eq_false_iff, Bool.not_eq_true', Bool.not_eq_false', beq_iff_eq, beq_eq_false_iff_ne, ne_eq, bne_iff_ne, bne_eq_false_iff_eq, decide_eq_true_eq, decide_eq_false_iff_not, Decidable.not_not] at h; first | done | (exfalso; omega; done) | skip) | skip))
    all_goals try ((first | refine WK.ret ⟨.inr rfl, Fin.of (q' := ?_) (A2 := ?_) (k1 := ?_) (k2 := ?_) ?_ ?_ ?_ ?_ ?_⟩ | refine ⟨.inl rfl, Fin.of (q' := ?_) (A2 := ?_) (k1 := ?_) (k2 := ?_) ?_ ?_ ?_ ?_ ?_⟩ | refine ⟨.inl trivial, Fin.of (q' := ?_) (A2 := ?_) (k1 := ?_) (k2 := ?_) ?_ ?_ ?_ ?_ ?_⟩); rotate_left 4; (focus (first | rfl | (simp only [go_sem, show Try.f24.results.toList = [.tmp 2] from rfl, reduceIte] <;> rfl))); (focus (first | rfl | (simp only [go_sem, reduceIte] <;> rfl))); (focus rfl); rotate_left 1; (focus (first | rfl | skip)); all_goals try with_reducible rfl)
    rw [decide_eq_true ho]
def atoms (k : Int) (t : List UInt8) (s : List Sp) : Nat := if k = 1 then t.length else if k = 3 then (idsL s).length else 0
theorem atoms_call (k r n m q : Int) (t : List UInt8) (s : List Sp) (nn : Nat) (hnn : nn = s.length) (ht : t.length ≤ 100000) (hs : s.length ≤ 100000) (h3 : k = 3 → (∀ x ∈ s, rightI x) ∧ tot s ≤ 1024) : SCall Try.prog 36 [.agg (opL k r n m t (.tr nn (encs spC s)) q)] (.v (.int .i64 (atoms k t s : Int))) [.agg (opL k r n m t (.tr nn (encs spC s)) q)] := by
  subst hnn
  unfold atoms
  by_cases k1 : k = 1
  · rw [if_pos k1]
    refine SCall.of_body' (TT := TT) (fun _ => false) [false] ttok Try.func36 rfl (Nat.le_of_ble_eq_true rfl) rfl fun fx hfx => WK.top ?_
    simp only [impl, imp, argT, List.append_nil, List.map_nil, List.nil_append, show Try.f36.ntmps = 16 from rfl, Nat.zero_add, Nat.reduceAdd]
    repeat' (first
      | refine WK.seq ?_
      | refine WK.reg ?_
      | refine IL.nil ?_
      | refine WK.skip ?_
      | refine WK.block ?_
      | refine WK.exit_here ?_
      | refine WK.exit_out1 (by decide) ?_
      | refine WK.exit_out2 (by decide) (by decide) ?_
      | (with_reducible refine IL.wr ?_ ?_; (focus (first | exact wrap_i64 (by omega) (by omega) | exact wrap_u64 (by omega) (by omega) | exact wrap_u32 (by omega) (by omega) | exact wrap_u16 (by omega) (by omega) | exact wrap_u8 (by omega) (by omega))))
      | (refine IL.stepg (σ' := ?_) ttok (by first | exact .inl rfl | (refine Gok.mk2 (b := ?_) rfl ?_ ?_; rotate_left 1; (focus rfl); (focus (with_reducible rfl)))) (fun K hK => ?_) ?_; rotate_left 1; (focus (simp only [go_sem, reduceIte]; first | exact hK | (and_intros <;> first | exact hK | omega | assumption | rfl | decide))))
      | (refine IL.no (σ' := ?_) (by first | (refine Gno.mkT (b := ?_) rfl ?_ ?_; rotate_left 1; (focus rfl); (focus (with_reducible rfl))) | (refine Gno.mkF (b := ?_) rfl ?_ ?_; rotate_left 1; (focus rfl); (focus (with_reducible rfl))) | exact Gno.mkU rfl rfl) (fun K hK => ?_) ?_; rotate_left 1; (focus (simp only [go_sem, reduceIte]; exact hK)))
      | (refine IL.callS (f := 39) (xs := ?_) (A := ?_) (A' := ?_) (rr := ?_) (σ' := ?_) (bs := ?_) (ks := ?_) (sets := ?_) (pushes := ?_) ttok ent39 [.bor] true ?_ ?_ ?_ ?_ ?_ ?_ ?_ ?_ ?_ (fun K hK => ?_) ?_; rotate_left 9; (focus (first | exact .inl rfl | (refine Gok.mk2 (b := ?_) rfl ?_ ?_; rotate_left 1; (focus rfl); (focus (with_reducible rfl))))); (focus rfl); (focus (first | rfl | (simp only [go_sem, reduceIte] <;> rfl))); (focus (refine ids_call _ _ ?_ ?_ ?_ ?_ <;> first | omega | assumption | decide | simp)); (focus rfl); (focus rfl); (focus (first | rfl | simp only [go_sem])); (focus (first | rfl | (simp only [go_sem, reduceIte] <;> rfl))); (focus simp); (focus (simp only [go_sem, reduceIte]; exact hK)))
      | ((first | (refine IL.askg (b := ?_) (d := ?_) ?_ ?_ (fun h => ?_) (fun h => ?_); rotate_left 2; (focus rfl); (focus rfl)) | (refine IL.askp (b := ?_) (d := ?_) ?_ ?_ (fun h => ?_) (fun h => ?_); rotate_left 2; (focus rfl); (focus rfl))); (fail_if_success (focus (simp only [reduceCtorEq] at h))); all_goals first | (simp only [Bool.and_eq_true, Bool.and_eq_false_iff, Bool.or_eq_true, Bool.or_eq_false_iff, Bool.not_eq_true', Bool.not_eq_false', beq_iff_eq, beq_eq_false_iff_ne, ne_eq, bne_iff_ne, bne_eq_false_iff_eq, decide_eq_true_eq, decide_eq_false_iff_not, Decidable.not_not] at h; first | done | (exfalso; omega; done) | skip) | skip)
      | (refine WK.cond (b := ?_) ?_ (fun h => ?_) (fun h => ?_); rotate_left 1; (focus rfl); all_goals first | (simp only [reduceCtorEq] at h; done) | (simp only [Bool.and_eq_true, Bool.and_eq_false_iff, Bool.or_eq_true, Bool.or_eq_false_iff, Bool.not_eq_true', Bool.not_eq_false', beq_iff_eq, beq_eq_false_iff_ne, ne_eq, bne_iff_ne, bne_eq_false_iff_eq, decide_eq_true_eq, decide_eq_false_iff_not, Decidable.not_not] at h; first | done | (exfalso; omega; done) | skip) | skip))
    all_goals try ((first | refine WK.ret ⟨.inr rfl, Fin.of (q' := ?_) (A2 := ?_) (k1 := ?_) (k2 := ?_) ?_ ?_ ?_ ?_ ?_⟩ | refine ⟨.inl rfl, Fin.of (q' := ?_) (A2 := ?_) (k1 := ?_) (k2 := ?_) ?_ ?_ ?_ ?_ ?_⟩ | refine ⟨.inl trivial, Fin.of (q' := ?_) (A2 := ?_) (k1 := ?_) (k2 := ?_) ?_ ?_ ?_ ?_ ?_⟩); rotate_left 4; (focus (first | rfl | (simp only [go_sem, show Try.f36.results.toList = [.tmp 2] from rfl, reduceIte] <;> rfl))); (focus (first | rfl | (simp only [go_sem, reduceIte] <;> rfl))); (focus rfl); rotate_left 1; (focus (first | rfl | skip)); all_goals try with_reducible rfl)
    all_goals simp
  · rw [if_neg k1]
    by_cases k3 : k = 3
    · rw [if_pos k3]
      obtain ⟨g1, g2⟩ := h3 k3
      refine SCall.of_body' (TT := TT) (fun _ => false) [false] ttok Try.func36 rfl (Nat.le_of_ble_eq_true rfl) rfl fun fx hfx => WK.top ?_
      simp only [impl, imp, argT, List.append_nil, List.map_nil, List.nil_append, show Try.f36.ntmps = 16 from rfl, Nat.zero_add, Nat.reduceAdd]
      repeat' (first
        | refine WK.seq ?_
        | refine WK.reg ?_
        | refine IL.nil ?_
        | refine WK.skip ?_
        | refine WK.block ?_
        | refine WK.exit_here ?_
        | refine WK.exit_out1 (by decide) ?_
        | refine WK.exit_out2 (by decide) (by decide) ?_
        | (with_reducible refine IL.wr ?_ ?_; (focus (first | exact wrap_i64 (by omega) (by omega) | exact wrap_u64 (by omega) (by omega) | exact wrap_u32 (by omega) (by omega) | exact wrap_u16 (by omega) (by omega) | exact wrap_u8 (by omega) (by omega))))
        | (refine IL.stepg (σ' := ?_) ttok (by first | exact .inl rfl | (refine Gok.mk2 (b := ?_) rfl ?_ ?_; rotate_left 1; (focus rfl); (focus (with_reducible rfl)))) (fun K hK => ?_) ?_; rotate_left 1; (focus (simp only [go_sem, reduceIte]; first | exact hK | (and_intros <;> first | exact hK | omega | assumption | rfl | decide))))
        | (refine IL.no (σ' := ?_) (by first | (refine Gno.mkT (b := ?_) rfl ?_ ?_; rotate_left 1; (focus rfl); (focus (with_reducible rfl))) | (refine Gno.mkF (b := ?_) rfl ?_ ?_; rotate_left 1; (focus rfl); (focus (with_reducible rfl))) | exact Gno.mkU rfl rfl) (fun K hK => ?_) ?_; rotate_left 1; (focus (simp only [go_sem, reduceIte]; exact hK)))
        | (refine IL.callS (f := 39) (xs := ?_) (A := ?_) (A' := ?_) (rr := ?_) (σ' := ?_) (bs := ?_) (ks := ?_) (sets := ?_) (pushes := ?_) ttok ent39 [.bor] true ?_ ?_ ?_ ?_ ?_ ?_ ?_ ?_ ?_ (fun K hK => ?_) ?_; rotate_left 9; (focus (first | exact .inl rfl | (refine Gok.mk2 (b := ?_) rfl ?_ ?_; rotate_left 1; (focus rfl); (focus (with_reducible rfl))))); (focus rfl); (focus (first | rfl | (simp only [go_sem, reduceIte] <;> rfl))); (focus (refine ids_call _ _ ?_ ?_ ?_ ?_ <;> first | omega | assumption | decide | simp)); (focus rfl); (focus rfl); (focus (first | rfl | simp only [go_sem])); (focus (first | rfl | (simp only [go_sem, reduceIte] <;> rfl))); (focus simp); (focus (simp only [go_sem, reduceIte]; exact hK)))
        | ((first | (refine IL.askg (b := ?_) (d := ?_) ?_ ?_ (fun h => ?_) (fun h => ?_); rotate_left 2; (focus rfl); (focus rfl)) | (refine IL.askp (b := ?_) (d := ?_) ?_ ?_ (fun h => ?_) (fun h => ?_); rotate_left 2; (focus rfl); (focus rfl))); (fail_if_success (focus (simp only [reduceCtorEq] at h))); all_goals first | (simp only [Bool.and_eq_true, Bool.and_eq_false_iff, Bool.or_eq_true, Bool.or_eq_false_iff, Bool.not_eq_true', Bool.not_eq_false', beq_iff_eq, beq_eq_false_iff_ne, ne_eq, bne_iff_ne, bne_eq_false_iff_eq, decide_eq_true_eq, decide_eq_false_iff_not, Decidable.not_not] at h; first | done | (exfalso; omega; done) | skip) | skip)
        | (refine WK.cond (b := ?_) ?_ (fun h => ?_) (fun h => ?_); rotate_left 1; (focus rfl); all_goals first | (simp only [reduceCtorEq] at h; done) | (simp only [Bool.and_eq_true, Bool.and_eq_false_iff, Bool.or_eq_true, Bool.or_eq_false_iff, Bool.not_eq_true', Bool.not_eq_false', beq_iff_eq, beq_eq_false_iff_ne, ne_eq, bne_iff_ne, bne_eq_false_iff_eq, decide_eq_true_eq, decide_eq_false_iff_not, Decidable.not_not] at h; first | done | (exfalso; omega; done) | skip) | skip))
      all_goals try ((first | refine WK.ret ⟨.inr rfl, Fin.of (q' := ?_) (A2 := ?_) (k1 := ?_) (k2 := ?_) ?_ ?_ ?_ ?_ ?_⟩ | refine ⟨.inl rfl, Fin.of (q' := ?_) (A2 := ?_) (k1 := ?_) (k2 := ?_) ?_ ?_ ?_ ?_ ?_⟩ | refine ⟨.inl trivial, Fin.of (q' := ?_) (A2 := ?_) (k1 := ?_) (k2 := ?_) ?_ ?_ ?_ ?_ ?_⟩); rotate_left 4; (focus (first | rfl | (simp only [go_sem, show Try.f36.results.toList = [.tmp 2] from rfl, reduceIte] <;> rfl))); (focus (first | rfl | (simp only [go_sem, reduceIte] <;> rfl))); (focus rfl); rotate_left 1; (focus (first | rfl | skip)); all_goals try with_reducible rfl)
    · rw [if_neg k3]
      refine SCall.of_body' (TT := TT) (fun _ => false) [false] ttok Try.func36 rfl (Nat.le_of_ble_eq_true rfl) rfl fun fx hfx => WK.top ?_
      simp only [impl, imp, argT, List.append_nil, List.map_nil, List.nil_append, show Try.f36.ntmps = 16 from rfl, Nat.zero_add, Nat.reduceAdd]
      repeat' (first
        | refine WK.seq ?_
        | refine WK.reg ?_
        | refine IL.nil ?_
        | refine WK.skip ?_
        | refine WK.block ?_
        | refine WK.exit_here ?_
        | refine WK.exit_out1 (by decide) ?_
        | refine WK.exit_out2 (by decide) (by decide) ?_
        | (with_reducible refine IL.wr ?_ ?_; (focus (first | exact wrap_i64 (by omega) (by omega) | exact wrap_u64 (by omega) (by omega) | exact wrap_u32 (by omega) (by omega) | exact wrap_u16 (by omega) (by omega) | exact wrap_u8 (by omega) (by omega))))
        | (refine IL.stepg (σ' := ?_) ttok (by first | exact .inl rfl | (refine Gok.mk2 (b := ?_) rfl ?_ ?_; rotate_left 1; (focus rfl); (focus (with_reducible rfl)))) (fun K hK => ?_) ?_; rotate_left 1; (focus (simp only [go_sem, reduceIte]; first | exact hK | (and_intros <;> first | exact hK | omega | assumption | rfl | decide))))
        | (refine IL.no (σ' := ?_) (by first | (refine Gno.mkT (b := ?_) rfl ?_ ?_; rotate_left 1; (focus rfl); (focus (with_reducible rfl))) | (refine Gno.mkF (b := ?_) rfl ?_ ?_; rotate_left 1; (focus rfl); (focus (with_reducible rfl))) | exact Gno.mkU rfl rfl) (fun K hK => ?_) ?_; rotate_left 1; (focus (simp only [go_sem, reduceIte]; exact hK)))
        | (refine IL.callS (f := 39) (xs := ?_) (A := ?_) (A' := ?_) (rr := ?_) (σ' := ?_) (bs := ?_) (ks := ?_) (sets := ?_) (pushes := ?_) ttok ent39 [.bor] true ?_ ?_ ?_ ?_ ?_ ?_ ?_ ?_ ?_ (fun K hK => ?_) ?_; rotate_left 9; (focus (first | exact .inl rfl | (refine Gok.mk2 (b := ?_) rfl ?_ ?_; rotate_left 1; (focus rfl); (focus (with_reducible rfl))))); (focus rfl); (focus (first | rfl | (simp only [go_sem, reduceIte] <;> rfl))); (focus (refine ids_call _ _ ?_ ?_ ?_ ?_ <;> first | omega | assumption | decide | simp)); (focus rfl); (focus rfl); (focus (first | rfl | simp only [go_sem])); (focus (first | rfl | (simp only [go_sem, reduceIte] <;> rfl))); (focus simp); (focus (simp only [go_sem, reduceIte]; exact hK)))
        | ((first | (refine IL.askg (b := ?_) (d := ?_) ?_ ?_ (fun h => ?_) (fun h => ?_); rotate_left 2; (focus rfl); (focus rfl)) | (refine IL.askp (b := ?_) (d := ?_) ?_ ?_ (fun h => ?_) (fun h => ?_); rotate_left 2; (focus rfl); (focus rfl))); (fail_if_success (focus (simp only [reduceCtorEq] at h))); all_goals first | (simp only [Bool.and_eq_true, Bool.and_eq_false_iff, Bool.or_eq_true, Bool.or_eq_false_iff, Bool.not_eq_true', Bool.not_eq_false', beq_iff_eq, beq_eq_false_iff_ne, ne_eq, bne_iff_ne, bne_eq_false_iff_eq, decide_eq_true_eq, decide_eq_false_iff_not, Decidable.not_not] at h; first | done | (exfalso; omega; done) | skip) | skip)
        | (refine WK.cond (b := ?_) ?_ (fun h => ?_) (fun h => ?_); rotate_left 1; (focus rfl); all_goals first | (simp only [reduceCtorEq] at h; done) | (simp only [Bool.and_eq_true, Bool.and_eq_false_iff, Bool.or_eq_true, Bool.or_eq_false_iff, Bool.not_eq_true', Bool.not_eq_false', beq_iff_eq, beq_eq_false_iff_ne, ne_eq, bne_iff_ne, bne_eq_false_iff_eq, decide_eq_true_eq, decide_eq_false_iff_not, Decidable.not_not] at h; first | done | (exfalso; omega; done) | skip) | skip))
      all_goals try ((first | refine WK.ret ⟨.inr rfl, Fin.of (q' := ?_) (A2 := ?_) (k1 := ?_) (k2 := ?_) ?_ ?_ ?_ ?_ ?_⟩ | refine ⟨.inl rfl, Fin.of (q' := ?_) (A2 := ?_) (k1 := ?_) (k2 := ?_) ?_ ?_ ?_ ?_ ?_⟩ | refine ⟨.inl trivial, Fin.of (q' := ?_) (A2 := ?_) (k1 := ?_) (k2 := ?_) ?_ ?_ ?_ ?_ ?_⟩); rotate_left 4; (focus (first | rfl | (simp only [go_sem, show Try.f36.results.toList = [.tmp 2] from rfl, reduceIte] <;> rfl))); (focus (first | rfl | (simp only [go_sem, reduceIte] <;> rfl))); (focus rfl); rotate_left 1; (focus (first | rfl | skip)); all_goals try with_reducible rfl)
      all_goals rfl
def numd (k r n m : Int) (t : List UInt8) (s : List Sp) : Prop := (r = 0 ∧ n = 0 ∨ 1 ≤ n ∧ n ≤ 268435456) ∧ 1 ≤ m ∧ m ≤ 268435456 ∧ m + (atoms k t s : Int) - 1 ≤ 268435456
instance (k r n m : Int) (t : List UInt8) (s : List Sp) : Decidable (numd k r n m t s) := by unfold numd; infer_instance
theorem numd_call (k r n m q : Int) (t : List UInt8) (s : List Sp) (nn : Nat) (hnn : nn = s.length) (ht : t.length ≤ 100000) (hs : s.length ≤ 100000) (h3 : k = 3 → (∀ x ∈ s, rightI x) ∧ tot s ≤ 1024) (hn : 0 ≤ n) : SCall Try.prog 25 [.agg (opL k r n m t (.tr nn (encs spC s)) q)] (.v (.bool (decide (numd k r n m t s)))) [.agg (opL k r n m t (.tr nn (encs spC s)) q)] := by
  subst hnn
  have hb : atoms k t s ≤ 100000 := by
    unfold atoms
    split
    · exact ht
    · split
      · rename_i h; have := idsL_len s (h3 h).1; have := (h3 h).2; omega
      · omega
  have hA := atoms_call k r n m q t s s.length rfl ht hs h3
  unfold numd
  refine SCall.of_body' (TT := TT) (fun _ => false) [false] ttok Try.func25 rfl (Nat.le_of_ble_eq_true rfl) rfl fun fx hfx => WK.top ?_
  simp only [impl, imp, argT, List.append_nil, List.map_nil, List.nil_append, show Try.f25.ntmps = 46 from rfl, Nat.zero_add, Nat.reduceAdd]
  repeat' (first
    | refine WK.seq ?_
    | refine WK.reg ?_
    | refine IL.nil ?_
    | refine WK.skip ?_
    | refine WK.block ?_
    | refine WK.exit_here ?_
    | refine WK.exit_out1 (by decide) ?_
    | refine WK.exit_out2 (by decide) (by decide) ?_
    | refine WK.drawnS (id := 4) mixed [] [13] [0, 0, 0, 0, 0, 0, 0, 0, 0, 0, 0, 0, 0, 0, 1, 1, 1, 1, 1] [0, 0, 0, 0, 0, 0, 0, 0, 0, 1, 1, 1, 0, 0, 1, 1, 1, 1, 1] (by decide +kernel) ?_
    | refine DW.nil ?_
    | (with_reducible refine IL.wr ?_ ?_; (focus (first | exact wrap_i64 (by omega) (by omega) | exact wrap_u64 (by omega) (by omega) | exact wrap_u32 (by omega) (by omega) | exact wrap_u16 (by omega) (by omega) | exact wrap_u8 (by omega) (by omega))))
    | (with_reducible refine DW.wr ?_ ?_; (focus (first | exact wrap_i64 (by omega) (by omega) | exact wrap_u64 (by omega) (by omega) | exact wrap_u32 (by omega) (by omega) | exact wrap_u16 (by omega) (by omega) | exact wrap_u8 (by omega) (by omega))))
    | (refine IL.stepg (σ' := ?_) ttok (by first | exact .inl rfl | (refine Gok.mk2 (b := ?_) rfl ?_ ?_; rotate_left 1; (focus rfl); (focus (with_reducible rfl)))) (fun K hK => ?_) ?_; rotate_left 1; (focus (simp only [go_sem, reduceIte]; first | exact hK | (and_intros <;> first | exact hK | omega | assumption | rfl | decide))))
    | (refine IL.no (σ' := ?_) (by first | (refine Gno.mkT (b := ?_) rfl ?_ ?_; rotate_left 1; (focus rfl); (focus (with_reducible rfl))) | (refine Gno.mkF (b := ?_) rfl ?_ ?_; rotate_left 1; (focus rfl); (focus (with_reducible rfl))) | exact Gno.mkU rfl rfl) (fun K hK => ?_) ?_; rotate_left 1; (focus (simp only [go_sem, reduceIte]; exact hK)))
    | (refine DW.rd (L := ?_) (T' := ?_) ttok rfl rfl (by decide) ?_ ?_ (fun K hK => ?_) ?_ ?_; rotate_left 2; (focus rfl); (focus (first | exact .inl rfl | (refine Gok.mk2 (b := ?_) rfl ?_ ?_; rotate_left 1; (focus rfl); (focus (with_reducible rfl))))); (focus (simp only [go_sem, reduceIte]; first | exact hK | (and_intros <;> first | exact hK | omega | assumption | rfl | decide))); (focus (first | exact ⟨_, rfl⟩ | rfl)))
    | (refine DW.rdm (L := ?_) (T' := ?_) ttok rfl rfl ?_ ?_ (fun K hK => ?_) ?_ ?_; rotate_left 2; (focus rfl); (focus (first | exact .inl rfl | (refine Gok.mk2 (b := ?_) rfl ?_ ?_; rotate_left 1; (focus rfl); (focus (with_reducible rfl))))); (focus (simp only [go_sem, reduceIte]; first | exact hK | (and_intros <;> first | exact hK | omega | assumption | rfl | decide))); (focus (first | exact ⟨_, rfl⟩ | rfl)))
    | (refine DW.bl (L' := ?_) (T' := ?_) ttok rfl ?_ (fun K hK => ?_) ?_ ?_ ?_; rotate_left 2; (focus (first | exact .inl rfl | (refine Gok.mk2 (b := ?_) rfl ?_ ?_; rotate_left 1; (focus rfl); (focus (with_reducible rfl))))); (focus (simp only [go_sem, reduceIte]; first | exact hK | (and_intros <;> first | exact hK | omega | assumption | rfl | decide))); (focus (first | exact ⟨_, rfl⟩ | rfl)); (focus (first | exact .inl rfl | exact .inr (LEX.refl _ _) | exact .inr (LE.app _ _).lex | exact .inr (LEX.of (by simp only [go_sem, List.contains_cons, List.contains_nil, Nat.reduceBEq, Bool.or_false, Bool.false_or, Nat.reduceAdd, true_or, false_or, true_and]; first | done | trivial | (and_intros <;> first | exact ⟨_, rfl⟩ | trivial))))))
    | (refine DW.no (L := ?_) (T' := ?_) ?_ rfl ?_ (fun K hK => ?_) ?_ ?_; rotate_left 2; (focus rfl); (focus (first | (refine Gno.mkT (b := ?_) rfl ?_ ?_; rotate_left 1; (focus rfl); (focus (with_reducible rfl))) | (refine Gno.mkF (b := ?_) rfl ?_ ?_; rotate_left 1; (focus rfl); (focus (with_reducible rfl))) | exact Gno.mkU rfl rfl)); (focus (simp only [go_sem, reduceIte]; exact hK)); (focus (first | exact ⟨_, rfl⟩ | rfl)))
    | (refine DW.nob (T' := ?_) rfl ?_ (fun K hK => ?_) ?_ ?_; rotate_left 1; (focus (first | (refine Gno.mkT (b := ?_) rfl ?_ ?_; rotate_left 1; (focus rfl); (focus (with_reducible rfl))) | (refine Gno.mkF (b := ?_) rfl ?_ ?_; rotate_left 1; (focus rfl); (focus (with_reducible rfl))) | exact Gno.mkU rfl rfl)); (focus (simp only [go_sem, reduceIte]; exact hK)); (focus (first | exact ⟨_, rfl⟩ | rfl)))
    | (refine DW.callS (f := 36) (xs := ?_) (A := ?_) (A' := ?_) (rr := ?_) (L' := ?_) (T' := ?_) (bs := ?_) (ks := ?_) (sets := ?_) (pushes := ?_) ttok ent36 [.bor] true rfl ?_ ?_ ?_ ?_ ?_ ?_ ?_ ?_ ?_ (fun K hK => ?_) ?_ ?_ ?_; rotate_left 10; (focus (first | exact .inl rfl | (refine Gok.mk2 (b := ?_) rfl ?_ ?_; rotate_left 1; (focus rfl); (focus (with_reducible rfl))))); (focus rfl); (focus (first | rfl | (simp only [go_sem, reduceIte] <;> rfl))); (focus (exact hA)); (focus rfl); (focus rfl); (focus (first | rfl | simp only [go_sem])); (focus (first | rfl | (simp only [go_sem, reduceIte] <;> rfl))); (focus simp); (focus (simp only [go_sem, reduceIte]; first | exact hK | (and_intros <;> first | exact hK | omega | assumption | rfl | decide))); (focus (first | exact ⟨_, rfl⟩ | rfl)); (focus (first | exact .inl rfl | exact .inr (LEX.refl _ _) | exact .inr (LE.app _ _).lex | exact .inr (LEX.of (by simp only [go_sem, List.contains_cons, List.contains_nil, Nat.reduceBEq, Bool.or_false, Bool.false_or, Nat.reduceAdd, true_or, false_or, true_and]; first | done | trivial | (and_intros <;> first | exact ⟨_, rfl⟩ | trivial))))))
    | ((first | (refine IL.askg (b := ?_) (d := ?_) ?_ ?_ (fun h => ?_) (fun h => ?_); rotate_left 2; (focus rfl); (focus rfl)) | (refine DW.askg (b := ?_) (d := ?_) ?_ ?_ (fun h => ?_) (fun h => ?_); rotate_left 2; (focus rfl); (focus rfl)) | (refine IL.askp (b := ?_) (d := ?_) ?_ ?_ (fun h => ?_) (fun h => ?_); rotate_left 2; (focus rfl); (focus rfl)) | (refine DW.askp (b := ?_) (d := ?_) ?_ ?_ (fun h => ?_) (fun h => ?_); rotate_left 2; (focus rfl); (focus rfl))); (fail_if_success (focus (simp only [reduceCtorEq] at h))); all_goals first | (simp only [Bool.and_eq_true, Bool.and_eq_false_iff, Bool.or_eq_true, Bool.or_eq_false_iff, Bool.not_eq_true', Bool.not_eq_false', beq_iff_eq, beq_eq_false_iff_ne, ne_eq, bne_iff_ne, bne_eq_false_iff_eq, decide_eq_true_eq, decide_eq_false_iff_not, Decidable.not_not] at h; first | done | (exfalso; omega; done) | skip) | skip)
    | (refine WK.cond (b := ?_) ?_ (fun h => ?_) (fun h => ?_); rotate_left 1; (focus rfl); all_goals first | (simp only [reduceCtorEq] at h; done) | (simp only [Bool.and_eq_true, Bool.and_eq_false_iff, Bool.or_eq_true, Bool.or_eq_false_iff, Bool.not_eq_true', Bool.not_eq_false', beq_iff_eq, beq_eq_false_iff_ne, ne_eq, bne_iff_ne, bne_eq_false_iff_eq, decide_eq_true_eq, decide_eq_false_iff_not, Decidable.not_not] at h; first | done | (exfalso; omega; done) | skip) | skip))
  all_goals try ((first | refine WK.ret ⟨.inr rfl, Fin.of (q' := ?_) (A2 := ?_) (k1 := ?_) (k2 := ?_) ?_ ?_ ?_ ?_ ?_⟩ | refine ⟨.inl rfl, Fin.of (q' := ?_) (A2 := ?_) (k1 := ?_) (k2 := ?_) ?_ ?_ ?_ ?_ ?_⟩ | refine ⟨.inl trivial, Fin.of (q' := ?_) (A2 := ?_) (k1 := ?_) (k2 := ?_) ?_ ?_ ?_ ?_ ?_⟩); rotate_left 4; (focus (first | rfl | (simp only [go_sem, show Try.f25.results.toList = [.tmp 2] from rfl, reduceIte] <;> rfl))); (focus (first | rfl | (simp only [go_sem, reduceIte] <;> rfl))); (focus rfl); rotate_left 1; (focus (first | rfl | skip)); all_goals try with_reducible rfl)
  all_goals first | (refine congrArg (fun b => IV.v (.bool b)) (decide_eq_false ?_).symm; omega) | (refine congrArg (fun b => IV.v (.bool b)) (decide_eq_decide.2 ?_); omega)
def placeI (r n m : Int) : Prop := r = 0 ∧ n = 0 ∧ m = 0
instance (r n m : Int) : Decidable (placeI r n m) := by unfold placeI; infer_instance
theorem place_call (k r n m q : Int) (t : List UInt8) (s : List Sp) (nn : Nat) : SCall Try.prog 26 [.agg (opL k r n m t (.tr nn (encs spC s)) q)] (.v (.bool (decide (placeI r n m)))) [.agg (opL k r n m t (.tr nn (encs spC s)) q)] := by
  refine SCall.of_body' (TT := TT) (fun _ => false) [false] ttok Try.func26 rfl (Nat.le_of_ble_eq_true rfl) rfl fun fx hfx => WK.top ?_
  simp only [impl, imp, argT, List.append_nil, List.map_nil, List.nil_append, show Try.f26.ntmps = 12 from rfl, Nat.zero_add, Nat.reduceAdd]
  repeat' (first
    | refine WK.seq ?_
    | refine WK.reg ?_
    | refine IL.nil ?_
    | refine WK.skip ?_
    | refine WK.block ?_
    | refine WK.exit_here ?_
    | refine WK.exit_out1 (by decide) ?_
    | refine WK.exit_out2 (by decide) (by decide) ?_
    | (with_reducible refine IL.wr ?_ ?_; (focus (first | exact wrap_i64 (by omega) (by omega) | exact wrap_u64 (by omega) (by omega) | exact wrap_u32 (by omega) (by omega) | exact wrap_u16 (by omega) (by omega) | exact wrap_u8 (by omega) (by omega))))
    | (refine IL.stepg (σ' := ?_) ttok (by first | exact .inl rfl | (refine Gok.mk2 (b := ?_) rfl ?_ ?_; rotate_left 1; (focus rfl); (focus (with_reducible rfl)))) (fun K hK => ?_) ?_; rotate_left 1; (focus (simp only [go_sem, reduceIte]; first | exact hK | (and_intros <;> first | exact hK | omega | assumption | rfl | decide))))
    | (refine IL.no (σ' := ?_) (by first | (refine Gno.mkT (b := ?_) rfl ?_ ?_; rotate_left 1; (focus rfl); (focus (with_reducible rfl))) | (refine Gno.mkF (b := ?_) rfl ?_ ?_; rotate_left 1; (focus rfl); (focus (with_reducible rfl))) | exact Gno.mkU rfl rfl) (fun K hK => ?_) ?_; rotate_left 1; (focus (simp only [go_sem, reduceIte]; exact hK)))
    | ((first | (refine IL.askg (b := ?_) (d := ?_) ?_ ?_ (fun h => ?_) (fun h => ?_); rotate_left 2; (focus rfl); (focus rfl)) | (refine IL.askp (b := ?_) (d := ?_) ?_ ?_ (fun h => ?_) (fun h => ?_); rotate_left 2; (focus rfl); (focus rfl))); (fail_if_success (focus (simp only [reduceCtorEq] at h))); all_goals first | (simp only [Bool.and_eq_true, Bool.and_eq_false_iff, Bool.or_eq_true, Bool.or_eq_false_iff, Bool.not_eq_true', Bool.not_eq_false', beq_iff_eq, beq_eq_false_iff_ne, ne_eq, bne_iff_ne, bne_eq_false_iff_eq, decide_eq_true_eq, decide_eq_false_iff_not, Decidable.not_not] at h; first | done | (exfalso; omega; done) | skip) | skip)
    | (refine WK.cond (b := ?_) ?_ (fun h => ?_) (fun h => ?_); rotate_left 1; (focus rfl); all_goals first | (simp only [reduceCtorEq] at h; done) | (simp only [Bool.and_eq_true, Bool.and_eq_false_iff, Bool.or_eq_true, Bool.or_eq_false_iff, Bool.not_eq_true', Bool.not_eq_false', beq_iff_eq, beq_eq_false_iff_ne, ne_eq, bne_iff_ne, bne_eq_false_iff_eq, decide_eq_true_eq, decide_eq_false_iff_not, Decidable.not_not] at h; first | done | (exfalso; omega; done) | skip) | skip))
  all_goals try ((first | refine WK.ret ⟨.inr rfl, Fin.of (q' := ?_) (A2 := ?_) (k1 := ?_) (k2 := ?_) ?_ ?_ ?_ ?_ ?_⟩ | refine ⟨.inl rfl, Fin.of (q' := ?_) (A2 := ?_) (k1 := ?_) (k2 := ?_) ?_ ?_ ?_ ?_ ?_⟩ | refine ⟨.inl trivial, Fin.of (q' := ?_) (A2 := ?_) (k1 := ?_) (k2 := ?_) ?_ ?_ ?_ ?_ ?_⟩); rotate_left 4; (focus (first | rfl | (simp only [go_sem, show Try.f26.results.toList = [.tmp 2] from rfl, reduceIte] <;> rfl))); (focus (first | rfl | (simp only [go_sem, reduceIte] <;> rfl))); (focus rfl); rotate_left 1; (focus (first | rfl | skip)); all_goals try with_reducible rfl)
  all_goals grind [placeI]
open Classical in
noncomputable def fit8 (k r n m : Int) (t : List UInt8) (s : List Sp) (q : Int) : Int :=
  if k = 1 then (if ¬ s = [] ∨ ¬ q = 0 ∨ t = [] ∨ ¬ plainT t then 11 else if 64 < t.length then 15 else if numd k r n m t s then 0 else 11)
  else if k = 2 then (if ¬ t = [] ∨ ¬ q = 0 ∨ ¬ placeI r n m then 11 else fit7 s)
  else if k = 3 then (if ¬ t = [] ∨ ¬ q = 0 then 11 else if fit7 s = 0 then (if numd k r n m t s then 0 else 11) else fit7 s)
  else if k = 4 ∨ k = 5 then (if ¬ t = [] ∨ ¬ s = [] ∨ ¬ placeI r n m ∨ q < 1 ∨ 268435456 < q then 11 else 0)
  else 11
theorem fit8_call (k r n m q : Int) (t : List UInt8) (s : List Sp) (nn : Nat) (hnn : nn = s.length) (ht : t.length ≤ 1000) (hs : s.length ≤ 1000) (hn : 0 ≤ n) (hq : 0 ≤ q) : SCall Try.prog 12 [.agg (opL k r n m t (.tr nn (encs spC s)) q)] (.v (.int .i64 (fit8 k r n m t s q))) [.agg (opL k r n m t (.tr nn (encs spC s)) q)] := by
  subst hnn
  have hs0 : s = [] ↔ s.length = 0 := List.length_eq_zero_iff.symm
  by_cases k1 : k = 1
  · have h3 : k = 3 → (∀ x ∈ s, rightI x) ∧ tot s ≤ 1024 := fun h => by omega
    unfold fit8
    rw [if_pos k1]
    refine SCall.of_body' (TT := TT) (fun _ => false) [false] ttok Try.func12 rfl (Nat.le_of_ble_eq_true rfl) rfl fun fx hfx => WK.top ?_
    simp only [impl, imp, argT, List.append_nil, List.map_nil, List.nil_append, show Try.f12.ntmps = 99 from rfl, Nat.zero_add, Nat.reduceAdd]
    repeat' (first
      | refine WK.seq ?_
      | refine WK.reg ?_
      | refine IL.nil ?_
      | refine WK.skip ?_
      | refine WK.block ?_
      | refine WK.exit_here ?_
      | refine WK.exit_out1 (by decide) ?_
      | refine WK.exit_out2 (by decide) (by decide) ?_
      | (with_reducible refine IL.wr ?_ ?_; (focus (first | exact wrap_i64 (by omega) (by omega) | exact wrap_u64 (by omega) (by omega) | exact wrap_u32 (by omega) (by omega) | exact wrap_u16 (by omega) (by omega) | exact wrap_u8 (by omega) (by omega))))
      | (refine IL.stepg (σ' := ?_) ttok (by first | exact .inl rfl | (refine Gok.mk2 (b := ?_) rfl ?_ ?_; rotate_left 1; (focus rfl); (focus (with_reducible rfl)))) (fun K hK => ?_) ?_; rotate_left 1; (focus (simp only [go_sem, reduceIte]; first | exact hK | (and_intros <;> first | exact hK | omega | assumption | rfl | decide))))
      | (refine IL.no (σ' := ?_) (by first | (refine Gno.mkT (b := ?_) rfl ?_ ?_; rotate_left 1; (focus rfl); (focus (with_reducible rfl))) | (refine Gno.mkF (b := ?_) rfl ?_ ?_; rotate_left 1; (focus rfl); (focus (with_reducible rfl))) | exact Gno.mkU rfl rfl) (fun K hK => ?_) ?_; rotate_left 1; (focus (simp only [go_sem, reduceIte]; exact hK)))
      | (refine IL.callS (f := 24) (xs := ?_) (A := ?_) (A' := ?_) (rr := ?_) (σ' := ?_) (bs := ?_) (ks := ?_) (sets := ?_) (pushes := ?_) ttok ent24 [.bor] true ?_ ?_ ?_ ?_ ?_ ?_ ?_ ?_ ?_ (fun K hK => ?_) ?_; rotate_left 9; (focus (first | exact .inl rfl | (refine Gok.mk2 (b := ?_) rfl ?_ ?_; rotate_left 1; (focus rfl); (focus (with_reducible rfl))))); (focus rfl); (focus (first | rfl | (simp only [go_sem, reduceIte] <;> rfl))); (focus (refine plain_call _ ?_ <;> first | omega | assumption | decide | simp)); (focus rfl); (focus rfl); (focus (first | rfl | simp only [go_sem])); (focus (first | rfl | (simp only [go_sem, reduceIte] <;> rfl))); (focus simp); (focus (simp only [go_sem, reduceIte]; exact hK)))
      | (refine IL.callS (f := 25) (xs := ?_) (A := ?_) (A' := ?_) (rr := ?_) (σ' := ?_) (bs := ?_) (ks := ?_) (sets := ?_) (pushes := ?_) ttok ent25 [.bor] true ?_ ?_ ?_ ?_ ?_ ?_ ?_ ?_ ?_ (fun K hK => ?_) ?_; rotate_left 9; (focus (first | exact .inl rfl | (refine Gok.mk2 (b := ?_) rfl ?_ ?_; rotate_left 1; (focus rfl); (focus (with_reducible rfl))))); (focus rfl); (focus (first | rfl | (simp only [go_sem, reduceIte] <;> rfl))); (focus (refine numd_call _ _ _ _ _ _ _ _ ?_ ?_ ?_ ?_ ?_ <;> first | omega | assumption | decide | simp)); (focus rfl); (focus rfl); (focus (first | rfl | simp only [go_sem])); (focus (first | rfl | (simp only [go_sem, reduceIte] <;> rfl))); (focus simp); (focus (simp only [go_sem, reduceIte]; exact hK)))
      | (refine IL.callS (f := 26) (xs := ?_) (A := ?_) (A' := ?_) (rr := ?_) (σ' := ?_) (bs := ?_) (ks := ?_) (sets := ?_) (pushes := ?_) ttok ent26 [.bor] true ?_ ?_ ?_ ?_ ?_ ?_ ?_ ?_ ?_ (fun K hK => ?_) ?_; rotate_left 9; (focus (first | exact .inl rfl | (refine Gok.mk2 (b := ?_) rfl ?_ ?_; rotate_left 1; (focus rfl); (focus (with_reducible rfl))))); (focus rfl); (focus (first | rfl | (simp only [go_sem, reduceIte] <;> rfl))); (focus (exact place_call _ _ _ _ _ _ _ _)); (focus rfl); (focus rfl); (focus (first | rfl | simp only [go_sem])); (focus (first | rfl | (simp only [go_sem, reduceIte] <;> rfl))); (focus simp); (focus (simp only [go_sem, reduceIte]; exact hK)))
      | (refine IL.callS (f := 27) (xs := ?_) (A := ?_) (A' := ?_) (rr := ?_) (σ' := ?_) (bs := ?_) (ks := ?_) (sets := ?_) (pushes := ?_) ttok ent27 [.bor] true ?_ ?_ ?_ ?_ ?_ ?_ ?_ ?_ ?_ (fun K hK => ?_) ?_; rotate_left 9; (focus (first | exact .inl rfl | (refine Gok.mk2 (b := ?_) rfl ?_ ?_; rotate_left 1; (focus rfl); (focus (with_reducible rfl))))); (focus rfl); (focus (first | rfl | (simp only [go_sem, reduceIte] <;> rfl))); (focus (refine fit7_call _ _ ?_ ?_ <;> first | omega | assumption | decide | simp)); (focus rfl); (focus rfl); (focus (first | rfl | simp only [go_sem])); (focus (first | rfl | (simp only [go_sem, reduceIte] <;> rfl))); (focus simp); (focus (simp only [go_sem, reduceIte]; exact hK)))
      | ((first | (refine IL.askg (b := ?_) (d := ?_) ?_ ?_ (fun h => ?_) (fun h => ?_); rotate_left 2; (focus rfl); (focus rfl)) | (refine IL.askp (b := ?_) (d := ?_) ?_ ?_ (fun h => ?_) (fun h => ?_); rotate_left 2; (focus rfl); (focus rfl))); (fail_if_success (focus (simp only [reduceCtorEq] at h))); all_goals first | (simp only [Bool.and_eq_true, Bool.and_eq_false_iff, Bool.or_eq_true, Bool.or_eq_false_iff, Bool.not_eq_true', Bool.not_eq_false', beq_iff_eq, beq_eq_false_iff_ne, ne_eq, bne_iff_ne, bne_eq_false_iff_eq, decide_eq_true_eq, decide_eq_false_iff_not, Decidable.not_not] at h; first | done | (exfalso; omega; done) | skip) | skip)
      | (refine WK.cond (b := ?_) ?_ (fun h => ?_) (fun h => ?_); rotate_left 1; (focus rfl); all_goals first | (simp only [reduceCtorEq] at h; done) | (simp only [Bool.and_eq_true, Bool.and_eq_false_iff, Bool.or_eq_true, Bool.or_eq_false_iff, Bool.not_eq_true', Bool.not_eq_false', beq_iff_eq, beq_eq_false_iff_ne, ne_eq, bne_iff_ne, bne_eq_false_iff_eq, decide_eq_true_eq, decide_eq_false_iff_not, Decidable.not_not] at h; first | done | (exfalso; omega; done) | skip) | skip))
    all_goals try ((first | refine WK.ret ⟨.inr rfl, Fin.of (q' := ?_) (A2 := ?_) (k1 := ?_) (k2 := ?_) ?_ ?_ ?_ ?_ ?_⟩ | refine ⟨.inl rfl, Fin.of (q' := ?_) (A2 := ?_) (k1 := ?_) (k2 := ?_) ?_ ?_ ?_ ?_ ?_⟩ | refine ⟨.inl trivial, Fin.of (q' := ?_) (A2 := ?_) (k1 := ?_) (k2 := ?_) ?_ ?_ ?_ ?_ ?_⟩); rotate_left 4; (focus (first | rfl | (simp only [go_sem, show Try.f12.results.toList = [.tmp 2] from rfl, reduceIte] <;> rfl))); (focus (first | rfl | (simp only [go_sem, reduceIte] <;> rfl))); (focus rfl); rotate_left 1; (focus (first | rfl | skip)); all_goals try with_reducible rfl)
    all_goals grind
  · by_cases k2 : k = 2
    · have h3 : k = 3 → (∀ x ∈ s, rightI x) ∧ tot s ≤ 1024 := fun h => by omega
      unfold fit8
      rw [if_neg k1, if_pos k2]
      refine SCall.of_body' (TT := TT) (fun _ => false) [false] ttok Try.func12 rfl (Nat.le_of_ble_eq_true rfl) rfl fun fx hfx => WK.top ?_
      simp only [impl, imp, argT, List.append_nil, List.map_nil, List.nil_append, show Try.f12.ntmps = 99 from rfl, Nat.zero_add, Nat.reduceAdd]
      repeat' (first
        | refine WK.seq ?_
        | refine WK.reg ?_
        | refine IL.nil ?_
        | refine WK.skip ?_
        | refine WK.block ?_
        | refine WK.exit_here ?_
        | refine WK.exit_out1 (by decide) ?_
        | refine WK.exit_out2 (by decide) (by decide) ?_
        | (with_reducible refine IL.wr ?_ ?_; (focus (first | exact wrap_i64 (by omega) (by omega) | exact wrap_u64 (by omega) (by omega) | exact wrap_u32 (by omega) (by omega) | exact wrap_u16 (by omega) (by omega) | exact wrap_u8 (by omega) (by omega))))
        | (refine IL.stepg (σ' := ?_) ttok (by first | exact .inl rfl | (refine Gok.mk2 (b := ?_) rfl ?_ ?_; rotate_left 1; (focus rfl); (focus (with_reducible rfl)))) (fun K hK => ?_) ?_; rotate_left 1; (focus (simp only [go_sem, reduceIte]; first | exact hK | (and_intros <;> first | exact hK | omega | assumption | rfl | decide))))
        | (refine IL.no (σ' := ?_) (by first | (refine Gno.mkT (b := ?_) rfl ?_ ?_; rotate_left 1; (focus rfl); (focus (with_reducible rfl))) | (refine Gno.mkF (b := ?_) rfl ?_ ?_; rotate_left 1; (focus rfl); (focus (with_reducible rfl))) | exact Gno.mkU rfl rfl) (fun K hK => ?_) ?_; rotate_left 1; (focus (simp only [go_sem, reduceIte]; exact hK)))
        | (refine IL.callS (f := 24) (xs := ?_) (A := ?_) (A' := ?_) (rr := ?_) (σ' := ?_) (bs := ?_) (ks := ?_) (sets := ?_) (pushes := ?_) ttok ent24 [.bor] true ?_ ?_ ?_ ?_ ?_ ?_ ?_ ?_ ?_ (fun K hK => ?_) ?_; rotate_left 9; (focus (first | exact .inl rfl | (refine Gok.mk2 (b := ?_) rfl ?_ ?_; rotate_left 1; (focus rfl); (focus (with_reducible rfl))))); (focus rfl); (focus (first | rfl | (simp only [go_sem, reduceIte] <;> rfl))); (focus (refine plain_call _ ?_ <;> first | omega | assumption | decide | simp)); (focus rfl); (focus rfl); (focus (first | rfl | simp only [go_sem])); (focus (first | rfl | (simp only [go_sem, reduceIte] <;> rfl))); (focus simp); (focus (simp only [go_sem, reduceIte]; exact hK)))
        | (refine IL.callS (f := 25) (xs := ?_) (A := ?_) (A' := ?_) (rr := ?_) (σ' := ?_) (bs := ?_) (ks := ?_) (sets := ?_) (pushes := ?_) ttok ent25 [.bor] true ?_ ?_ ?_ ?_ ?_ ?_ ?_ ?_ ?_ (fun K hK => ?_) ?_; rotate_left 9; (focus (first | exact .inl rfl | (refine Gok.mk2 (b := ?_) rfl ?_ ?_; rotate_left 1; (focus rfl); (focus (with_reducible rfl))))); (focus rfl); (focus (first | rfl | (simp only [go_sem, reduceIte] <;> rfl))); (focus (refine numd_call _ _ _ _ _ _ _ _ ?_ ?_ ?_ ?_ ?_ <;> first | omega | assumption | decide | simp)); (focus rfl); (focus rfl); (focus (first | rfl | simp only [go_sem])); (focus (first | rfl | (simp only [go_sem, reduceIte] <;> rfl))); (focus simp); (focus (simp only [go_sem, reduceIte]; exact hK)))
        | (refine IL.callS (f := 26) (xs := ?_) (A := ?_) (A' := ?_) (rr := ?_) (σ' := ?_) (bs := ?_) (ks := ?_) (sets := ?_) (pushes := ?_) ttok ent26 [.bor] true ?_ ?_ ?_ ?_ ?_ ?_ ?_ ?_ ?_ (fun K hK => ?_) ?_; rotate_left 9; (focus (first | exact .inl rfl | (refine Gok.mk2 (b := ?_) rfl ?_ ?_; rotate_left 1; (focus rfl); (focus (with_reducible rfl))))); (focus rfl); (focus (first | rfl | (simp only [go_sem, reduceIte] <;> rfl))); (focus (exact place_call _ _ _ _ _ _ _ _)); (focus rfl); (focus rfl); (focus (first | rfl | simp only [go_sem])); (focus (first | rfl | (simp only [go_sem, reduceIte] <;> rfl))); (focus simp); (focus (simp only [go_sem, reduceIte]; exact hK)))
        | (refine IL.callS (f := 27) (xs := ?_) (A := ?_) (A' := ?_) (rr := ?_) (σ' := ?_) (bs := ?_) (ks := ?_) (sets := ?_) (pushes := ?_) ttok ent27 [.bor] true ?_ ?_ ?_ ?_ ?_ ?_ ?_ ?_ ?_ (fun K hK => ?_) ?_; rotate_left 9; (focus (first | exact .inl rfl | (refine Gok.mk2 (b := ?_) rfl ?_ ?_; rotate_left 1; (focus rfl); (focus (with_reducible rfl))))); (focus rfl); (focus (first | rfl | (simp only [go_sem, reduceIte] <;> rfl))); (focus (refine fit7_call _ _ ?_ ?_ <;> first | omega | assumption | decide | simp)); (focus rfl); (focus rfl); (focus (first | rfl | simp only [go_sem])); (focus (first | rfl | (simp only [go_sem, reduceIte] <;> rfl))); (focus simp); (focus (simp only [go_sem, reduceIte]; exact hK)))
        | ((first | (refine IL.askg (b := ?_) (d := ?_) ?_ ?_ (fun h => ?_) (fun h => ?_); rotate_left 2; (focus rfl); (focus rfl)) | (refine IL.askp (b := ?_) (d := ?_) ?_ ?_ (fun h => ?_) (fun h => ?_); rotate_left 2; (focus rfl); (focus rfl))); (fail_if_success (focus (simp only [reduceCtorEq] at h))); all_goals first | (simp only [Bool.and_eq_true, Bool.and_eq_false_iff, Bool.or_eq_true, Bool.or_eq_false_iff, Bool.not_eq_true', Bool.not_eq_false', beq_iff_eq, beq_eq_false_iff_ne, ne_eq, bne_iff_ne, bne_eq_false_iff_eq, decide_eq_true_eq, decide_eq_false_iff_not, Decidable.not_not] at h; first | done | (exfalso; omega; done) | skip) | skip)
        | (refine WK.cond (b := ?_) ?_ (fun h => ?_) (fun h => ?_); rotate_left 1; (focus rfl); all_goals first | (simp only [reduceCtorEq] at h; done) | (simp only [Bool.and_eq_true, Bool.and_eq_false_iff, Bool.or_eq_true, Bool.or_eq_false_iff, Bool.not_eq_true', Bool.not_eq_false', beq_iff_eq, beq_eq_false_iff_ne, ne_eq, bne_iff_ne, bne_eq_false_iff_eq, decide_eq_true_eq, decide_eq_false_iff_not, Decidable.not_not] at h; first | done | (exfalso; omega; done) | skip) | skip))
      all_goals try ((first | refine WK.ret ⟨.inr rfl, Fin.of (q' := ?_) (A2 := ?_) (k1 := ?_) (k2 := ?_) ?_ ?_ ?_ ?_ ?_⟩ | refine ⟨.inl rfl, Fin.of (q' := ?_) (A2 := ?_) (k1 := ?_) (k2 := ?_) ?_ ?_ ?_ ?_ ?_⟩ | refine ⟨.inl trivial, Fin.of (q' := ?_) (A2 := ?_) (k1 := ?_) (k2 := ?_) ?_ ?_ ?_ ?_ ?_⟩); rotate_left 4; (focus (first | rfl | (simp only [go_sem, show Try.f12.results.toList = [.tmp 2] from rfl, reduceIte] <;> rfl))); (focus (first | rfl | (simp only [go_sem, reduceIte] <;> rfl))); (focus rfl); rotate_left 1; (focus (first | rfl | skip)); all_goals try with_reducible rfl)
      all_goals grind
    · by_cases k3 : k = 3
      · unfold fit8
        rw [if_neg k1, if_neg k2, if_pos k3]
        by_cases hf : fit7 s = 0
        · have h3 : k = 3 → (∀ x ∈ s, rightI x) ∧ tot s ≤ 1024 := fun _ => fit7_ok hf
          refine SCall.of_body' (TT := TT) (fun _ => false) [false] ttok Try.func12 rfl (Nat.le_of_ble_eq_true rfl) rfl fun fx hfx => WK.top ?_
          simp only [impl, imp, argT, List.append_nil, List.map_nil, List.nil_append, show Try.f12.ntmps = 99 from rfl, Nat.zero_add, Nat.reduceAdd]
          repeat' (first
            | refine WK.seq ?_
            | refine WK.reg ?_
            | refine IL.nil ?_
            | refine WK.skip ?_
            | refine WK.block ?_
            | refine WK.exit_here ?_
            | refine WK.exit_out1 (by decide) ?_
            | refine WK.exit_out2 (by decide) (by decide) ?_
            | (with_reducible refine IL.wr ?_ ?_; (focus (first | exact wrap_i64 (by omega) (by omega) | exact wrap_u64 (by omega) (by omega) | exact wrap_u32 (by omega) (by omega) | exact wrap_u16 (by omega) (by omega) | exact wrap_u8 (by omega) (by omega))))
            | (refine IL.stepg (σ' := ?_) ttok (by first | exact .inl rfl | (refine Gok.mk2 (b := ?_) rfl ?_ ?_; rotate_left 1; (focus rfl); (focus (with_reducible rfl)))) (fun K hK => ?_) ?_; rotate_left 1; (focus (simp only [go_sem, reduceIte]; first | exact hK | (and_intros <;> first | exact hK | omega | assumption | rfl | decide))))
            | (refine IL.no (σ' := ?_) (by first | (refine Gno.mkT (b := ?_) rfl ?_ ?_; rotate_left 1; (focus rfl); (focus (with_reducible rfl))) | (refine Gno.mkF (b := ?_) rfl ?_ ?_; rotate_left 1; (focus rfl); (focus (with_reducible rfl))) | exact Gno.mkU rfl rfl) (fun K hK => ?_) ?_; rotate_left 1; (focus (simp only [go_sem, reduceIte]; exact hK)))
            | (refine IL.callS (f := 24) (xs := ?_) (A := ?_) (A' := ?_) (rr := ?_) (σ' := ?_) (bs := ?_) (ks := ?_) (sets := ?_) (pushes := ?_) ttok ent24 [.bor] true ?_ ?_ ?_ ?_ ?_ ?_ ?_ ?_ ?_ (fun K hK => ?_) ?_; rotate_left 9; (focus (first | exact .inl rfl | (refine Gok.mk2 (b := ?_) rfl ?_ ?_; rotate_left 1; (focus rfl); (focus (with_reducible rfl))))); (focus rfl); (focus (first | rfl | (simp only [go_sem, reduceIte] <;> rfl))); (focus (refine plain_call _ ?_ <;> first | omega | assumption | decide | simp)); (focus rfl); (focus rfl); (focus (first | rfl | simp only [go_sem])); (focus (first | rfl | (simp only [go_sem, reduceIte] <;> rfl))); (focus simp); (focus (simp only [go_sem, reduceIte]; exact hK)))
            | (refine IL.callS (f := 25) (xs := ?_) (A := ?_) (A' := ?_) (rr := ?_) (σ' := ?_) (bs := ?_) (ks := ?_) (sets := ?_) (pushes := ?_) ttok ent25 [.bor] true ?_ ?_ ?_ ?_ ?_ ?_ ?_ ?_ ?_ (fun K hK => ?_) ?_; rotate_left 9; (focus (first | exact .inl rfl | (refine Gok.mk2 (b := ?_) rfl ?_ ?_; rotate_left 1; (focus rfl); (focus (with_reducible rfl))))); (focus rfl); (focus (first | rfl | (simp only [go_sem, reduceIte] <;> rfl))); (focus (refine numd_call _ _ _ _ _ _ _ _ ?_ ?_ ?_ ?_ ?_ <;> first | omega | assumption | decide | simp)); (focus rfl); (focus rfl); (focus (first | rfl | simp only [go_sem])); (focus (first | rfl | (simp only [go_sem, reduceIte] <;> rfl))); (focus simp); (focus (simp only [go_sem, reduceIte]; exact hK)))
            | (refine IL.callS (f := 26) (xs := ?_) (A := ?_) (A' := ?_) (rr := ?_) (σ' := ?_) (bs := ?_) (ks := ?_) (sets := ?_) (pushes := ?_) ttok ent26 [.bor] true ?_ ?_ ?_ ?_ ?_ ?_ ?_ ?_ ?_ (fun K hK => ?_) ?_; rotate_left 9; (focus (first | exact .inl rfl | (refine Gok.mk2 (b := ?_) rfl ?_ ?_; rotate_left 1; (focus rfl); (focus (with_reducible rfl))))); (focus rfl); (focus (first | rfl | (simp only [go_sem, reduceIte] <;> rfl))); (focus (exact place_call _ _ _ _ _ _ _ _)); (focus rfl); (focus rfl); (focus (first | rfl | simp only [go_sem])); (focus (first | rfl | (simp only [go_sem, reduceIte] <;> rfl))); (focus simp); (focus (simp only [go_sem, reduceIte]; exact hK)))
            | (refine IL.callS (f := 27) (xs := ?_) (A := ?_) (A' := ?_) (rr := ?_) (σ' := ?_) (bs := ?_) (ks := ?_) (sets := ?_) (pushes := ?_) ttok ent27 [.bor] true ?_ ?_ ?_ ?_ ?_ ?_ ?_ ?_ ?_ (fun K hK => ?_) ?_; rotate_left 9; (focus (first | exact .inl rfl | (refine Gok.mk2 (b := ?_) rfl ?_ ?_; rotate_left 1; (focus rfl); (focus (with_reducible rfl))))); (focus rfl); (focus (first | rfl | (simp only [go_sem, reduceIte] <;> rfl))); (focus (refine fit7_call _ _ ?_ ?_ <;> first | omega | assumption | decide | simp)); (focus rfl); (focus rfl); (focus (first | rfl | simp only [go_sem])); (focus (first | rfl | (simp only [go_sem, reduceIte] <;> rfl))); (focus simp); (focus (simp only [go_sem, reduceIte]; exact hK)))
            | ((first | (refine IL.askg (b := ?_) (d := ?_) ?_ ?_ (fun h => ?_) (fun h => ?_); rotate_left 2; (focus rfl); (focus rfl)) | (refine IL.askp (b := ?_) (d := ?_) ?_ ?_ (fun h => ?_) (fun h => ?_); rotate_left 2; (focus rfl); (focus rfl))); (fail_if_success (focus (simp only [reduceCtorEq] at h))); all_goals first | (simp only [Bool.and_eq_true, Bool.and_eq_false_iff, Bool.or_eq_true, Bool.or_eq_false_iff, Bool.not_eq_true', Bool.not_eq_false', beq_iff_eq, beq_eq_false_iff_ne, ne_eq, bne_iff_ne, bne_eq_false_iff_eq, decide_eq_true_eq, decide_eq_false_iff_not, Decidable.not_not] at h; first | done | (exfalso; omega; done) | skip) | skip)
            | (refine WK.cond (b := ?_) ?_ (fun h => ?_) (fun h => ?_); rotate_left 1; (focus rfl); all_goals first | (simp only [reduceCtorEq] at h; done) | (simp only [Bool.and_eq_true, Bool.and_eq_false_iff, Bool.or_eq_true, Bool.or_eq_false_iff, Bool.not_eq_true', Bool.not_eq_false', beq_iff_eq, beq_eq_false_iff_ne, ne_eq, bne_iff_ne, bne_eq_false_iff_eq, decide_eq_true_eq, decide_eq_false_iff_not, Decidable.not_not] at h; first | done | (exfalso; omega; done) | skip) | skip))
          all_goals try ((first | refine WK.ret ⟨.inr rfl, Fin.of (q' := ?_) (A2 := ?_) (k1 := ?_) (k2 := ?_) ?_ ?_ ?_ ?_ ?_⟩ | refine ⟨.inl rfl, Fin.of (q' := ?_) (A2 := ?_) (k1 := ?_) (k2 := ?_) ?_ ?_ ?_ ?_ ?_⟩ | refine ⟨.inl trivial, Fin.of (q' := ?_) (A2 := ?_) (k1 := ?_) (k2 := ?_) ?_ ?_ ?_ ?_ ?_⟩); rotate_left 4; (focus (first | rfl | (simp only [go_sem, show Try.f12.results.toList = [.tmp 2] from rfl, reduceIte] <;> rfl))); (focus (first | rfl | (simp only [go_sem, reduceIte] <;> rfl))); (focus rfl); rotate_left 1; (focus (first | rfl | skip)); all_goals try with_reducible rfl)
          all_goals grind
        · refine SCall.of_body' (TT := TT) (fun _ => false) [false] ttok Try.func12 rfl (Nat.le_of_ble_eq_true rfl) rfl fun fx hfx => WK.top ?_
          simp only [impl, imp, argT, List.append_nil, List.map_nil, List.nil_append, show Try.f12.ntmps = 99 from rfl, Nat.zero_add, Nat.reduceAdd]
          repeat' (first
            | refine WK.seq ?_
            | refine WK.reg ?_
            | refine IL.nil ?_
            | refine WK.skip ?_
            | refine WK.block ?_
            | refine WK.exit_here ?_
            | refine WK.exit_out1 (by decide) ?_
            | refine WK.exit_out2 (by decide) (by decide) ?_
            | (with_reducible refine IL.wr ?_ ?_; (focus (first | exact wrap_i64 (by omega) (by omega) | exact wrap_u64 (by omega) (by omega) | exact wrap_u32 (by omega) (by omega) | exact wrap_u16 (by omega) (by omega) | exact wrap_u8 (by omega) (by omega))))
            | (refine IL.stepg (σ' := ?_) ttok (by first | exact .inl rfl | (refine Gok.mk2 (b := ?_) rfl ?_ ?_; rotate_left 1; (focus rfl); (focus (with_reducible rfl)))) (fun K hK => ?_) ?_; rotate_left 1; (focus (simp only [go_sem, reduceIte]; first | exact hK | (and_intros <;> first | exact hK | omega | assumption | rfl | decide))))
            | (refine IL.no (σ' := ?_) (by first | (refine Gno.mkT (b := ?_) rfl ?_ ?_; rotate_left 1; (focus rfl); (focus (with_reducible rfl))) | (refine Gno.mkF (b := ?_) rfl ?_ ?_; rotate_left 1; (focus rfl); (focus (with_reducible rfl))) | exact Gno.mkU rfl rfl) (fun K hK => ?_) ?_; rotate_left 1; (focus (simp only [go_sem, reduceIte]; exact hK)))
            | (refine IL.callS (f := 24) (xs := ?_) (A := ?_) (A' := ?_) (rr := ?_) (σ' := ?_) (bs := ?_) (ks := ?_) (sets := ?_) (pushes := ?_) ttok ent24 [.bor] true ?_ ?_ ?_ ?_ ?_ ?_ ?_ ?_ ?_ (fun K hK => ?_) ?_; rotate_left 9; (focus (first | exact .inl rfl | (refine Gok.mk2 (b := ?_) rfl ?_ ?_; rotate_left 1; (focus rfl); (focus (with_reducible rfl))))); (focus rfl); (focus (first | rfl | (simp only [go_sem, reduceIte] <;> rfl))); (focus (refine plain_call _ ?_ <;> first | omega | assumption | decide | simp)); (focus rfl); (focus rfl); (focus (first | rfl | simp only [go_sem])); (focus (first | rfl | (simp only [go_sem, reduceIte] <;> rfl))); (focus simp); (focus (simp only [go_sem, reduceIte]; exact hK)))
            | (refine IL.callS (f := 25) (xs := ?_) (A := ?_) (A' := ?_) (rr := ?_) (σ' := ?_) (bs := ?_) (ks := ?_) (sets := ?_) (pushes := ?_) ttok ent25 [.bor] true ?_ ?_ ?_ ?_ ?_ ?_ ?_ ?_ ?_ (fun K hK => ?_) ?_; rotate_left 9; (focus (first | exact .inl rfl | (refine Gok.mk2 (b := ?_) rfl ?_ ?_; rotate_left 1; (focus rfl); (focus (with_reducible rfl))))); (focus rfl); (focus (first | rfl | (simp only [go_sem, reduceIte] <;> rfl))); (focus (refine numd_call _ _ _ _ _ _ _ _ ?_ ?_ ?_ ?_ ?_ <;> first | omega | assumption | decide | simp)); (focus rfl); (focus rfl); (focus (first | rfl | simp only [go_sem])); (focus (first | rfl | (simp only [go_sem, reduceIte] <;> rfl))); (focus simp); (focus (simp only [go_sem, reduceIte]; exact hK)))
            | (refine IL.callS (f := 26) (xs := ?_) (A := ?_) (A' := ?_) (rr := ?_) (σ' := ?_) (bs := ?_) (ks := ?_) (sets := ?_) (pushes := ?_) ttok ent26 [.bor] true ?_ ?_ ?_ ?_ ?_ ?_ ?_ ?_ ?_ (fun K hK => ?_) ?_; rotate_left 9; (focus (first | exact .inl rfl | (refine Gok.mk2 (b := ?_) rfl ?_ ?_; rotate_left 1; (focus rfl); (focus (with_reducible rfl))))); (focus rfl); (focus (first | rfl | (simp only [go_sem, reduceIte] <;> rfl))); (focus (exact place_call _ _ _ _ _ _ _ _)); (focus rfl); (focus rfl); (focus (first | rfl | simp only [go_sem])); (focus (first | rfl | (simp only [go_sem, reduceIte] <;> rfl))); (focus simp); (focus (simp only [go_sem, reduceIte]; exact hK)))
            | (refine IL.callS (f := 27) (xs := ?_) (A := ?_) (A' := ?_) (rr := ?_) (σ' := ?_) (bs := ?_) (ks := ?_) (sets := ?_) (pushes := ?_) ttok ent27 [.bor] true ?_ ?_ ?_ ?_ ?_ ?_ ?_ ?_ ?_ (fun K hK => ?_) ?_; rotate_left 9; (focus (first | exact .inl rfl | (refine Gok.mk2 (b := ?_) rfl ?_ ?_; rotate_left 1; (focus rfl); (focus (with_reducible rfl))))); (focus rfl); (focus (first | rfl | (simp only [go_sem, reduceIte] <;> rfl))); (focus (refine fit7_call _ _ ?_ ?_ <;> first | omega | assumption | decide | simp)); (focus rfl); (focus rfl); (focus (first | rfl | simp only [go_sem])); (focus (first | rfl | (simp only [go_sem, reduceIte] <;> rfl))); (focus simp); (focus (simp only [go_sem, reduceIte]; exact hK)))
            | ((first | (refine IL.askg (b := ?_) (d := ?_) ?_ ?_ (fun h => ?_) (fun h => ?_); rotate_left 2; (focus rfl); (focus rfl)) | (refine IL.askp (b := ?_) (d := ?_) ?_ ?_ (fun h => ?_) (fun h => ?_); rotate_left 2; (focus rfl); (focus rfl))); (fail_if_success (focus (simp only [reduceCtorEq] at h))); all_goals first | (simp only [Bool.and_eq_true, Bool.and_eq_false_iff, Bool.or_eq_true, Bool.or_eq_false_iff, Bool.not_eq_true', Bool.not_eq_false', beq_iff_eq, beq_eq_false_iff_ne, ne_eq, bne_iff_ne, bne_eq_false_iff_eq, decide_eq_true_eq, decide_eq_false_iff_not, Decidable.not_not] at h; first | done | (exfalso; omega; done) | skip) | skip)
            | (refine WK.cond (b := ?_) ?_ (fun h => ?_) (fun h => ?_); rotate_left 1; (focus rfl); all_goals first | (simp only [reduceCtorEq] at h; done) | (simp only [Bool.and_eq_true, Bool.and_eq_false_iff, Bool.or_eq_true, Bool.or_eq_false_iff, Bool.not_eq_true', Bool.not_eq_false', beq_iff_eq, beq_eq_false_iff_ne, ne_eq, bne_iff_ne, bne_eq_false_iff_eq, decide_eq_true_eq, decide_eq_false_iff_not, Decidable.not_not] at h; first | done | (exfalso; omega; done) | skip) | skip))
          all_goals try ((first | refine WK.ret ⟨.inr rfl, Fin.of (q' := ?_) (A2 := ?_) (k1 := ?_) (k2 := ?_) ?_ ?_ ?_ ?_ ?_⟩ | refine ⟨.inl rfl, Fin.of (q' := ?_) (A2 := ?_) (k1 := ?_) (k2 := ?_) ?_ ?_ ?_ ?_ ?_⟩ | refine ⟨.inl trivial, Fin.of (q' := ?_) (A2 := ?_) (k1 := ?_) (k2 := ?_) ?_ ?_ ?_ ?_ ?_⟩); rotate_left 4; (focus (first | rfl | (simp only [go_sem, show Try.f12.results.toList = [.tmp 2] from rfl, reduceIte] <;> rfl))); (focus (first | rfl | (simp only [go_sem, reduceIte] <;> rfl))); (focus rfl); rotate_left 1; (focus (first | rfl | skip)); all_goals try with_reducible rfl)
          all_goals grind
      · unfold fit8
        rw [if_neg k1, if_neg k2, if_neg k3]
        refine SCall.of_body' (TT := TT) (fun _ => false) [false] ttok Try.func12 rfl (Nat.le_of_ble_eq_true rfl) rfl fun fx hfx => WK.top ?_
        simp only [impl, imp, argT, List.append_nil, List.map_nil, List.nil_append, show Try.f12.ntmps = 99 from rfl, Nat.zero_add, Nat.reduceAdd]
        repeat' (first
          | refine WK.seq ?_
          | refine WK.reg ?_
          | refine IL.nil ?_
          | refine WK.skip ?_
          | refine WK.block ?_
          | refine WK.exit_here ?_
          | refine WK.exit_out1 (by decide) ?_
          | refine WK.exit_out2 (by decide) (by decide) ?_
          | (with_reducible refine IL.wr ?_ ?_; (focus (first | exact wrap_i64 (by omega) (by omega) | exact wrap_u64 (by omega) (by omega) | exact wrap_u32 (by omega) (by omega) | exact wrap_u16 (by omega) (by omega) | exact wrap_u8 (by omega) (by omega))))
          | (refine IL.stepg (σ' := ?_) ttok (by first | exact .inl rfl | (refine Gok.mk2 (b := ?_) rfl ?_ ?_; rotate_left 1; (focus rfl); (focus (with_reducible rfl)))) (fun K hK => ?_) ?_; rotate_left 1; (focus (simp only [go_sem, reduceIte]; first | exact hK | (and_intros <;> first | exact hK | omega | assumption | rfl | decide))))
          | (refine IL.no (σ' := ?_) (by first | (refine Gno.mkT (b := ?_) rfl ?_ ?_; rotate_left 1; (focus rfl); (focus (with_reducible rfl))) | (refine Gno.mkF (b := ?_) rfl ?_ ?_; rotate_left 1; (focus rfl); (focus (with_reducible rfl))) | exact Gno.mkU rfl rfl) (fun K hK => ?_) ?_; rotate_left 1; (focus (simp only [go_sem, reduceIte]; exact hK)))
          | (refine IL.callS (f := 24) (xs := ?_) (A := ?_) (A' := ?_) (rr := ?_) (σ' := ?_) (bs := ?_) (ks := ?_) (sets := ?_) (pushes := ?_) ttok ent24 [.bor] true ?_ ?_ ?_ ?_ ?_ ?_ ?_ ?_ ?_ (fun K hK => ?_) ?_; rotate_left 9; (focus (first | exact .inl rfl | (refine Gok.mk2 (b := ?_) rfl ?_ ?_; rotate_left 1; (focus rfl); (focus (with_reducible rfl))))); (focus rfl); (focus (first | rfl | (simp only [go_sem, reduceIte] <;> rfl))); (focus (refine plain_call _ ?_ <;> first | omega | assumption | decide | simp)); (focus rfl); (focus rfl); (focus (first | rfl | simp only [go_sem])); (focus (first | rfl | (simp only [go_sem, reduceIte] <;> rfl))); (focus simp); (focus (simp only [go_sem, reduceIte]; exact hK)))
          | (refine IL.callS (f := 25) (xs := ?_) (A := ?_) (A' := ?_) (rr := ?_) (σ' := ?_) (bs := ?_) (ks := ?_) (sets := ?_) (pushes := ?_) ttok ent25 [.bor] true ?_ ?_ ?_ ?_ ?_ ?_ ?_ ?_ ?_ (fun K hK => ?_) ?_; rotate_left 9; (focus (first | exact .inl rfl | (refine Gok.mk2 (b := ?_) rfl ?_ ?_; rotate_left 1; (focus rfl); (focus (with_reducible rfl))))); (focus rfl); (focus (first | rfl | (simp only [go_sem, reduceIte] <;> rfl))); (focus (refine numd_call _ _ _ _ _ _ _ _ ?_ ?_ ?_ ?_ ?_ <;> first | omega | assumption | decide | simp)); (focus rfl); (focus rfl); (focus (first | rfl | simp only [go_sem])); (focus (first | rfl | (simp only [go_sem, reduceIte] <;> rfl))); (focus simp); (focus (simp only [go_sem, reduceIte]; exact hK)))
          | (refine IL.callS (f := 26) (xs := ?_) (A := ?_) (A' := ?_) (rr := ?_) (σ' := ?_) (bs := ?_) (ks := ?_) (sets := ?_) (pushes := ?_) ttok ent26 [.bor] true ?_ ?_ ?_ ?_ ?_ ?_ ?_ ?_ ?_ (fun K hK => ?_) ?_; rotate_left 9; (focus (first | exact .inl rfl | (refine Gok.mk2 (b := ?_) rfl ?_ ?_; rotate_left 1; (focus rfl); (focus (with_reducible rfl))))); (focus rfl); (focus (first | rfl | (simp only [go_sem, reduceIte] <;> rfl))); (focus (exact place_call _ _ _ _ _ _ _ _)); (focus rfl); (focus rfl); (focus (first | rfl | simp only [go_sem])); (focus (first | rfl | (simp only [go_sem, reduceIte] <;> rfl))); (focus simp); (focus (simp only [go_sem, reduceIte]; exact hK)))
          | (refine IL.callS (f := 27) (xs := ?_) (A := ?_) (A' := ?_) (rr := ?_) (σ' := ?_) (bs := ?_) (ks := ?_) (sets := ?_) (pushes := ?_) ttok ent27 [.bor] true ?_ ?_ ?_ ?_ ?_ ?_ ?_ ?_ ?_ (fun K hK => ?_) ?_; rotate_left 9; (focus (first | exact .inl rfl | (refine Gok.mk2 (b := ?_) rfl ?_ ?_; rotate_left 1; (focus rfl); (focus (with_reducible rfl))))); (focus rfl); (focus (first | rfl | (simp only [go_sem, reduceIte] <;> rfl))); (focus (refine fit7_call _ _ ?_ ?_ <;> first | omega | assumption | decide | simp)); (focus rfl); (focus rfl); (focus (first | rfl | simp only [go_sem])); (focus (first | rfl | (simp only [go_sem, reduceIte] <;> rfl))); (focus simp); (focus (simp only [go_sem, reduceIte]; exact hK)))
          | ((first | (refine IL.askg (b := ?_) (d := ?_) ?_ ?_ (fun h => ?_) (fun h => ?_); rotate_left 2; (focus rfl); (focus rfl)) | (refine IL.askp (b := ?_) (d := ?_) ?_ ?_ (fun h => ?_) (fun h => ?_); rotate_left 2; (focus rfl); (focus rfl))); (fail_if_success (focus (simp only [reduceCtorEq] at h))); all_goals first | (simp only [Bool.and_eq_true, Bool.and_eq_false_iff, Bool.or_eq_true, Bool.or_eq_false_iff, Bool.not_eq_true', Bool.not_eq_false', beq_iff_eq, beq_eq_false_iff_ne, ne_eq, bne_iff_ne, bne_eq_false_iff_eq, decide_eq_true_eq, decide_eq_false_iff_not, Decidable.not_not] at h; first | done | (exfalso; omega; done) | skip) | skip)
          | (refine WK.cond (b := ?_) ?_ (fun h => ?_) (fun h => ?_); rotate_left 1; (focus rfl); all_goals first | (simp only [reduceCtorEq] at h; done) | (simp only [Bool.and_eq_true, Bool.and_eq_false_iff, Bool.or_eq_true, Bool.or_eq_false_iff, Bool.not_eq_true', Bool.not_eq_false', beq_iff_eq, beq_eq_false_iff_ne, ne_eq, bne_iff_ne, bne_eq_false_iff_eq, decide_eq_true_eq, decide_eq_false_iff_not, Decidable.not_not] at h; first | done | (exfalso; omega; done) | skip) | skip))
        all_goals try ((first | refine WK.ret ⟨.inr rfl, Fin.of (q' := ?_) (A2 := ?_) (k1 := ?_) (k2 := ?_) ?_ ?_ ?_ ?_ ?_⟩ | refine ⟨.inl rfl, Fin.of (q' := ?_) (A2 := ?_) (k1 := ?_) (k2 := ?_) ?_ ?_ ?_ ?_ ?_⟩ | refine ⟨.inl trivial, Fin.of (q' := ?_) (A2 := ?_) (k1 := ?_) (k2 := ?_) ?_ ?_ ?_ ?_ ?_⟩); rotate_left 4; (focus (first | rfl | (simp only [go_sem, show Try.f12.results.toList = [.tmp 2] from rfl, reduceIte] <;> rfl))); (focus (first | rfl | (simp only [go_sem, reduceIte] <;> rfl))); (focus rfl); rotate_left 1; (focus (first | rfl | skip)); all_goals try with_reducible rfl)
        all_goals grind
theorem fit8_ok {k r n m q : Int} {t : List UInt8} {s : List Sp} (h : fit8 k r n m t s q = 0) : (k = 1 ∧ s = [] ∧ q = 0 ∧ t.length ≤ 64 ∧ numd k r n m t s) ∨ (k = 2 ∧ t = [] ∧ q = 0 ∧ placeI r n m ∧ fit7 s = 0) ∨ (k = 3 ∧ t = [] ∧ q = 0 ∧ fit7 s = 0 ∧ numd k r n m t s) ∨ ((k = 4 ∨ k = 5) ∧ t = [] ∧ s = [] ∧ placeI r n m ∧ 1 ≤ q ∧ q ≤ 268435456) := by
  unfold fit8 at h
  split at h
  · rename_i k1
    split at h
    · exact absurd h (by decide)
    · rename_i c
      split at h
      · exact absurd h (by decide)
      · rename_i c2
        split at h
        · rename_i c3
          simp only [not_or, Classical.not_not] at c
          exact .inl ⟨k1, c.1, c.2.1, by omega, c3⟩
        · exact absurd h (by decide)
  · split at h
    · rename_i k2
      split at h
      · exact absurd h (by decide)
      · rename_i c
        simp only [not_or, Classical.not_not] at c
        exact .inr (.inl ⟨k2, c.1, c.2.1, c.2.2, h⟩)
    · split at h
      · rename_i k3
        split at h
        · exact absurd h (by decide)
        · rename_i c
          simp only [not_or, Classical.not_not] at c
          split at h
          · rename_i c2
            split at h
            · rename_i c3
              exact .inr (.inr (.inl ⟨k3, c.1, c.2, c2, c3⟩))
            · exact absurd h (by decide)
          · rename_i c2
            exact absurd h c2
      · split at h
        · rename_i k4
          split at h
          · exact absurd h (by decide)
          · rename_i c
            simp only [not_or, Classical.not_not] at c
            exact .inr (.inr (.inr ⟨k4, c.1, c.2.1, c.2.2.1, by omega, by omega⟩))
        · exact absurd h (by decide)
end Go.Proofs.Ytolbmgkoifchfaa
