/- The document writes an operation; what was written is read again. -/
import Derived.Test.YtolbmgkoifchfaaLX4O7
import Derived.Test.YtolbmgkoifchfaaLX4O3
namespace Go.Proofs.Ytolbmgkoifchfaa
open Go Go.Lift
set_option maxHeartbeats 4000000
set_option linter.unusedSimpArgs false
set_option linter.unusedVariables false
attribute [local irreducible] WK IL IP IG IW DW

theorem tk2 (x y : List UInt8) : List.take (x.length + y.length) (x ++ y) = x ++ y := List.take_of_length_le (by simp)
theorem tk3 (x y z : List UInt8) : List.take (x.length + y.length + z.length) (x ++ y ++ z) = x ++ y ++ z := List.take_of_length_le (by simp only [List.length_append]; omega)
theorem tk4 (x y z u : List UInt8) : List.take (x.length + y.length + z.length + u.length) (x ++ y ++ z ++ u) = x ++ y ++ z ++ u := List.take_of_length_le (by simp only [List.length_append]; omega)
theorem refOpB_call (k r n m q : Nat) (t : List UInt8) (s : List Sp) (nn : Nat) (hnn : nn = s.length) (hk : k < 100) (hr : r < 65536) (hn : n < 4294967296) (hm : m < 4294967296) (hq : q < 4294967296) (ht : t.length ≤ 1000) (hs : s.length ≤ 1000) (hf : ∀ x ∈ s, fits x) :
    SCall Try.prog 16 [.agg (opL k r n m t (.tr nn (encs spC s)) q)] (.own 5 (opB k r n m t s q).length true (bcells (opB k r n m t s q))) [.agg (opL k r n m t (.tr nn (encs spC s)) q)] := by
  subst hnn
  have mk : k % 9223372036854775808 = k := Nat.mod_eq_of_lt (by omega)
  have mr : r % 9223372036854775808 = r := Nat.mod_eq_of_lt (by omega)
  have mn : n % 9223372036854775808 = n := Nat.mod_eq_of_lt (by omega)
  have mm : m % 9223372036854775808 = m := Nat.mod_eq_of_lt (by omega)
  have mq : q % 9223372036854775808 = q := Nat.mod_eq_of_lt (by omega)
  have l1 := numB_le 9 k (by omega)
  have l2 := numB_le 9 r (by omega)
  have l3 := numB_le 9 n (by omega)
  have l4 := numB_le 9 m (by omega)
  have l5 := numB_le 9 q (by omega)
  have l6 := numB_le 9 s.length (by omega)
  have l7 := numB_le 9 t.length (by omega)
  have l8 := spsB_len s hf
  have l9 : (spansB s).length ≤ 100000 := by simp only [spansB, List.length_append]; omega
  have l10 : (numB t.length ++ t).length ≤ 2000 := by simp only [List.length_append]; omega
  have hb : ∀ x y : List UInt8, bcells x ++ bcells y = bcells (x ++ y) := fun x y => by simp [bcells]
  have hl : ∀ x y : List UInt8, x.length + y.length = (x ++ y).length := fun x y => by simp
  unfold opB
  obtain rfl | rfl | rfl | hk4 : k = 1 ∨ k = 2 ∨ k = 3 ∨ (¬ k = 1 ∧ ¬ k = 2 ∧ ¬ k = 3) := by omega
  · rw [if_pos rfl]
    refine SCall.of_body' (TT := TT) (fun _ => false) [false] ttok Try.func16 rfl (Nat.le_of_ble_eq_true rfl) rfl fun fx hfx => WK.top ?_
    simp only [impl, imp, argT, List.append_nil, List.map_nil, List.nil_append, show Try.f16.ntmps = 63 from rfl, Nat.zero_add, Nat.reduceAdd]
    repeat' (first
      | refine WK.seq ?_
      | refine WK.reg ?_
      | refine IL.nil ?_
      | refine WK.skip ?_
      | refine WK.block ?_
      | refine WK.exit_here ?_
      | refine WK.exit_out1 (by decide) ?_
      | refine WK.exit_out2 (by decide) (by decide) ?_
      | (with_reducible refine IL.wr ?_ ?_; (focus (first | exact wrap_i64 (by omega) (by omega) | exact wrap_u64 (by omega) (by omega) | exact wrap_u32 (by omega) (by omega) | exact wrap_u16 (by omega) (by omega) | exact wrap_u8 (by omega) (by omega))))
      | (refine IL.stepg (σ' := ?_) ttok (by first | exact .inl rfl | (refine Gok.mk2 (b := ?_) rfl ?_ ?_; rotate_left 1; (focus rfl); (focus (with_reducible rfl)))) (fun K hK => ?_) ?_; rotate_left 1; (focus (simp only [go_sem, reduceIte, mk, mr, mn, mm]; first | exact hK | (and_intros <;> first | exact hK | omega | assumption | rfl | decide))))
      | (refine IL.no (σ' := ?_) (by first | (refine Gno.mkT (b := ?_) rfl ?_ ?_; rotate_left 1; (focus rfl); (focus (with_reducible rfl))) | (refine Gno.mkF (b := ?_) rfl ?_ ?_; rotate_left 1; (focus rfl); (focus (with_reducible rfl))) | exact Gno.mkU rfl rfl) (fun K hK => ?_) ?_; rotate_left 1; (focus (simp only [go_sem, reduceIte]; exact hK)))
      | (refine IL.callS (f := 31) (xs := ?_) (A := ?_) (A' := ?_) (rr := ?_) (σ' := ?_) (bs := ?_) (ks := ?_) (sets := ?_) (pushes := ?_) ttok ent31 [.bor] true ?_ ?_ ?_ ?_ ?_ ?_ ?_ ?_ ?_ (fun K hK => ?_) ?_; rotate_left 9; (focus (first | exact .inl rfl | (refine Gok.mk2 (b := ?_) rfl ?_ ?_; rotate_left 1; (focus rfl); (focus (with_reducible rfl))))); (focus rfl); (focus (first | rfl | (simp only [go_sem, reduceIte, mk, mr, mn, mm] <;> rfl))); (focus (refine refNum_call _ _ (Nat.lt_succ_self _) ?_ <;> first | omega | assumption | decide | simp)); (focus rfl); (focus rfl); (focus (first | rfl | simp only [go_sem])); (focus (first | rfl | (simp only [go_sem, reduceIte, mk, mr, mn, mm] <;> rfl))); (focus simp); (focus (simp only [go_sem, reduceIte, mk, mr, mn, mm]; exact hK)))
      | (refine IL.callS (f := 32) (xs := ?_) (A := ?_) (A' := ?_) (rr := ?_) (σ' := ?_) (bs := ?_) (ks := ?_) (sets := ?_) (pushes := ?_) ttok ent32 [.bor] true ?_ ?_ ?_ ?_ ?_ ?_ ?_ ?_ ?_ (fun K hK => ?_) ?_; rotate_left 9; (focus (first | exact .inl rfl | (refine Gok.mk2 (b := ?_) rfl ?_ ?_; rotate_left 1; (focus rfl); (focus (with_reducible rfl))))); (focus rfl); (focus (first | rfl | (simp only [go_sem, reduceIte, mk, mr, mn, mm] <;> rfl))); (focus (refine refText_call _ ?_ <;> first | omega | assumption | decide | simp)); (focus rfl); (focus rfl); (focus (first | rfl | simp only [go_sem])); (focus (first | rfl | (simp only [go_sem, reduceIte, mk, mr, mn, mm] <;> rfl))); (focus simp); (focus (simp only [go_sem, reduceIte, mk, mr, mn, mm]; exact hK)))
      | (refine IL.callS (f := 33) (xs := ?_) (A := ?_) (A' := ?_) (rr := ?_) (σ' := ?_) (bs := ?_) (ks := ?_) (sets := ?_) (pushes := ?_) ttok ent33 [.bor] true ?_ ?_ ?_ ?_ ?_ ?_ ?_ ?_ ?_ (fun K hK => ?_) ?_; rotate_left 9; (focus (first | exact .inl rfl | (refine Gok.mk2 (b := ?_) rfl ?_ ?_; rotate_left 1; (focus rfl); (focus (with_reducible rfl))))); (focus rfl); (focus (first | rfl | (simp only [go_sem, reduceIte, mk, mr, mn, mm] <;> rfl))); (focus (refine refBytes_call _ _ ?_ ?_ ?_ <;> first | omega | assumption | decide | simp)); (focus rfl); (focus rfl); (focus (first | rfl | simp only [go_sem])); (focus (first | rfl | (simp only [go_sem, reduceIte, mk, mr, mn, mm] <;> rfl))); (focus simp); (focus (simp only [go_sem, reduceIte, mk, mr, mn, mm]; exact hK)))
      | ((first | (refine IL.askg (b := ?_) (d := ?_) ?_ ?_ (fun h => ?_) (fun h => ?_); rotate_left 2; (focus rfl); (focus rfl)) | (refine IL.askp (b := ?_) (d := ?_) ?_ ?_ (fun h => ?_) (fun h => ?_); rotate_left 2; (focus rfl); (focus rfl))); (fail_if_success (focus (simp only [reduceCtorEq] at h))); all_goals first | (simp only [Bool.and_eq_true, Bool.and_eq_false_iff, Bool.or_eq_true, Bool.or_eq_false_iff, Bool.not_eq_true', Bool.not_eq_false', beq_iff_eq, beq_eq_false_iff_ne, ne_eq, bne_iff_ne, bne_eq_false_iff_eq, decide_eq_true_eq, decide_eq_false_iff_not, Decidable.not_not] at h; first | done | (exfalso; omega; done) | skip) | skip)
      | (refine WK.cond (b := ?_) ?_ (fun h => ?_) (fun h => ?_); rotate_left 1; (focus rfl); all_goals first | (simp only [reduceCtorEq] at h; done) | (simp only [Bool.and_eq_true, Bool.and_eq_false_iff, Bool.or_eq_true, Bool.or_eq_false_iff, Bool.not_eq_true', Bool.not_eq_false', beq_iff_eq, beq_eq_false_iff_ne, ne_eq, bne_iff_ne, bne_eq_false_iff_eq, decide_eq_true_eq, decide_eq_false_iff_not, Decidable.not_not] at h; first | done | (exfalso; omega; done) | skip) | skip))
    all_goals try ((first | refine WK.ret ⟨.inr rfl, Fin.of (q' := ?_) (A2 := ?_) (k1 := ?_) (k2 := ?_) ?_ ?_ ?_ ?_ ?_⟩ | refine ⟨.inl rfl, Fin.of (q' := ?_) (A2 := ?_) (k1 := ?_) (k2 := ?_) ?_ ?_ ?_ ?_ ?_⟩ | refine ⟨.inl trivial, Fin.of (q' := ?_) (A2 := ?_) (k1 := ?_) (k2 := ?_) ?_ ?_ ?_ ?_ ?_⟩); rotate_left 4; (focus (first | rfl | (simp only [go_sem, show Try.f16.results.toList = [.tmp 2] from rfl, reduceIte] <;> rfl))); (focus (first | rfl | (simp only [go_sem, reduceIte] <;> rfl))); (focus rfl); rotate_left 1; (focus (first | rfl | skip)); all_goals try with_reducible rfl)
    all_goals ((try simp only [tk2, tk3, tk4]); simp [spansB, Nat.add_assoc])
  · rw [if_neg (by decide), if_pos rfl]
    refine SCall.of_body' (TT := TT) (fun _ => false) [false] ttok Try.func16 rfl (Nat.le_of_ble_eq_true rfl) rfl fun fx hfx => WK.top ?_
    simp only [impl, imp, argT, List.append_nil, List.map_nil, List.nil_append, show Try.f16.ntmps = 63 from rfl, Nat.zero_add, Nat.reduceAdd]
    repeat' (first
      | refine WK.seq ?_
      | refine WK.reg ?_
      | refine IL.nil ?_
      | refine WK.skip ?_
      | refine WK.block ?_
      | refine WK.exit_here ?_
      | refine WK.exit_out1 (by decide) ?_
      | refine WK.exit_out2 (by decide) (by decide) ?_
      | (with_reducible refine IL.wr ?_ ?_; (focus (first | exact wrap_i64 (by omega) (by omega) | exact wrap_u64 (by omega) (by omega) | exact wrap_u32 (by omega) (by omega) | exact wrap_u16 (by omega) (by omega) | exact wrap_u8 (by omega) (by omega))))
      | (refine IL.stepg (σ' := ?_) ttok (by first | exact .inl rfl | (refine Gok.mk2 (b := ?_) rfl ?_ ?_; rotate_left 1; (focus rfl); (focus (with_reducible rfl)))) (fun K hK => ?_) ?_; rotate_left 1; (focus (simp only [go_sem, reduceIte, mk]; first | exact hK | (and_intros <;> first | exact hK | omega | assumption | rfl | decide))))
      | (refine IL.no (σ' := ?_) (by first | (refine Gno.mkT (b := ?_) rfl ?_ ?_; rotate_left 1; (focus rfl); (focus (with_reducible rfl))) | (refine Gno.mkF (b := ?_) rfl ?_ ?_; rotate_left 1; (focus rfl); (focus (with_reducible rfl))) | exact Gno.mkU rfl rfl) (fun K hK => ?_) ?_; rotate_left 1; (focus (simp only [go_sem, reduceIte]; exact hK)))
      | (refine IL.callS (f := 31) (xs := ?_) (A := ?_) (A' := ?_) (rr := ?_) (σ' := ?_) (bs := ?_) (ks := ?_) (sets := ?_) (pushes := ?_) ttok ent31 [.bor] true ?_ ?_ ?_ ?_ ?_ ?_ ?_ ?_ ?_ (fun K hK => ?_) ?_; rotate_left 9; (focus (first | exact .inl rfl | (refine Gok.mk2 (b := ?_) rfl ?_ ?_; rotate_left 1; (focus rfl); (focus (with_reducible rfl))))); (focus rfl); (focus (first | rfl | (simp only [go_sem, reduceIte, mk] <;> rfl))); (focus (refine refNum_call _ _ (Nat.lt_succ_self _) ?_ <;> first | omega | assumption | decide | simp)); (focus rfl); (focus rfl); (focus (first | rfl | simp only [go_sem])); (focus (first | rfl | (simp only [go_sem, reduceIte, mk] <;> rfl))); (focus simp); (focus (simp only [go_sem, reduceIte, mk]; exact hK)))
      | (refine IL.callS (f := 32) (xs := ?_) (A := ?_) (A' := ?_) (rr := ?_) (σ' := ?_) (bs := ?_) (ks := ?_) (sets := ?_) (pushes := ?_) ttok ent32 [.bor] true ?_ ?_ ?_ ?_ ?_ ?_ ?_ ?_ ?_ (fun K hK => ?_) ?_; rotate_left 9; (focus (first | exact .inl rfl | (refine Gok.mk2 (b := ?_) rfl ?_ ?_; rotate_left 1; (focus rfl); (focus (with_reducible rfl))))); (focus rfl); (focus (first | rfl | (simp only [go_sem, reduceIte, mk] <;> rfl))); (focus (refine refText_call _ ?_ <;> first | omega | assumption | decide | simp)); (focus rfl); (focus rfl); (focus (first | rfl | simp only [go_sem])); (focus (first | rfl | (simp only [go_sem, reduceIte, mk] <;> rfl))); (focus simp); (focus (simp only [go_sem, reduceIte, mk]; exact hK)))
      | (refine IL.callS (f := 33) (xs := ?_) (A := ?_) (A' := ?_) (rr := ?_) (σ' := ?_) (bs := ?_) (ks := ?_) (sets := ?_) (pushes := ?_) ttok ent33 [.bor] true ?_ ?_ ?_ ?_ ?_ ?_ ?_ ?_ ?_ (fun K hK => ?_) ?_; rotate_left 9; (focus (first | exact .inl rfl | (refine Gok.mk2 (b := ?_) rfl ?_ ?_; rotate_left 1; (focus rfl); (focus (with_reducible rfl))))); (focus rfl); (focus (first | rfl | (simp only [go_sem, reduceIte, mk] <;> rfl))); (focus (refine refBytes_call _ _ ?_ ?_ ?_ <;> first | omega | assumption | decide | simp)); (focus rfl); (focus rfl); (focus (first | rfl | simp only [go_sem])); (focus (first | rfl | (simp only [go_sem, reduceIte, mk] <;> rfl))); (focus simp); (focus (simp only [go_sem, reduceIte, mk]; exact hK)))
      | ((first | (refine IL.askg (b := ?_) (d := ?_) ?_ ?_ (fun h => ?_) (fun h => ?_); rotate_left 2; (focus rfl); (focus rfl)) | (refine IL.askp (b := ?_) (d := ?_) ?_ ?_ (fun h => ?_) (fun h => ?_); rotate_left 2; (focus rfl); (focus rfl))); (fail_if_success (focus (simp only [reduceCtorEq] at h))); all_goals first | (simp only [Bool.and_eq_true, Bool.and_eq_false_iff, Bool.or_eq_true, Bool.or_eq_false_iff, Bool.not_eq_true', Bool.not_eq_false', beq_iff_eq, beq_eq_false_iff_ne, ne_eq, bne_iff_ne, bne_eq_false_iff_eq, decide_eq_true_eq, decide_eq_false_iff_not, Decidable.not_not] at h; first | done | (exfalso; omega; done) | skip) | skip)
      | (refine WK.cond (b := ?_) ?_ (fun h => ?_) (fun h => ?_); rotate_left 1; (focus rfl); all_goals first | (simp only [reduceCtorEq] at h; done) | (simp only [Bool.and_eq_true, Bool.and_eq_false_iff, Bool.or_eq_true, Bool.or_eq_false_iff, Bool.not_eq_true', Bool.not_eq_false', beq_iff_eq, beq_eq_false_iff_ne, ne_eq, bne_iff_ne, bne_eq_false_iff_eq, decide_eq_true_eq, decide_eq_false_iff_not, Decidable.not_not] at h; first | done | (exfalso; omega; done) | skip) | skip))
    all_goals try ((first | refine WK.ret ⟨.inr rfl, Fin.of (q' := ?_) (A2 := ?_) (k1 := ?_) (k2 := ?_) ?_ ?_ ?_ ?_ ?_⟩ | refine ⟨.inl rfl, Fin.of (q' := ?_) (A2 := ?_) (k1 := ?_) (k2 := ?_) ?_ ?_ ?_ ?_ ?_⟩ | refine ⟨.inl trivial, Fin.of (q' := ?_) (A2 := ?_) (k1 := ?_) (k2 := ?_) ?_ ?_ ?_ ?_ ?_⟩); rotate_left 4; (focus (first | rfl | (simp only [go_sem, show Try.f16.results.toList = [.tmp 2] from rfl, reduceIte] <;> rfl))); (focus (first | rfl | (simp only [go_sem, reduceIte] <;> rfl))); (focus rfl); rotate_left 1; (focus (first | rfl | skip)); all_goals try with_reducible rfl)
    all_goals ((try simp only [tk2, tk3, tk4]); simp [spansB, Nat.add_assoc])
  · rw [if_neg (by decide), if_neg (by decide), if_pos rfl]
    refine SCall.of_body' (TT := TT) (fun _ => false) [false] ttok Try.func16 rfl (Nat.le_of_ble_eq_true rfl) rfl fun fx hfx => WK.top ?_
    simp only [impl, imp, argT, List.append_nil, List.map_nil, List.nil_append, show Try.f16.ntmps = 63 from rfl, Nat.zero_add, Nat.reduceAdd]
    repeat' (first
      | refine WK.seq ?_
      | refine WK.reg ?_
      | refine IL.nil ?_
      | refine WK.skip ?_
      | refine WK.block ?_
      | refine WK.exit_here ?_
      | refine WK.exit_out1 (by decide) ?_
      | refine WK.exit_out2 (by decide) (by decide) ?_
      | (with_reducible refine IL.wr ?_ ?_; (focus (first | exact wrap_i64 (by omega) (by omega) | exact wrap_u64 (by omega) (by omega) | exact wrap_u32 (by omega) (by omega) | exact wrap_u16 (by omega) (by omega) | exact wrap_u8 (by omega) (by omega))))
      | (refine IL.stepg (σ' := ?_) ttok (by first | exact .inl rfl | (refine Gok.mk2 (b := ?_) rfl ?_ ?_; rotate_left 1; (focus rfl); (focus (with_reducible rfl)))) (fun K hK => ?_) ?_; rotate_left 1; (focus (simp only [go_sem, reduceIte, mk, mr, mn, mm]; first | exact hK | (and_intros <;> first | exact hK | omega | assumption | rfl | decide))))
      | (refine IL.no (σ' := ?_) (by first | (refine Gno.mkT (b := ?_) rfl ?_ ?_; rotate_left 1; (focus rfl); (focus (with_reducible rfl))) | (refine Gno.mkF (b := ?_) rfl ?_ ?_; rotate_left 1; (focus rfl); (focus (with_reducible rfl))) | exact Gno.mkU rfl rfl) (fun K hK => ?_) ?_; rotate_left 1; (focus (simp only [go_sem, reduceIte]; exact hK)))
      | (refine IL.callS (f := 31) (xs := ?_) (A := ?_) (A' := ?_) (rr := ?_) (σ' := ?_) (bs := ?_) (ks := ?_) (sets := ?_) (pushes := ?_) ttok ent31 [.bor] true ?_ ?_ ?_ ?_ ?_ ?_ ?_ ?_ ?_ (fun K hK => ?_) ?_; rotate_left 9; (focus (first | exact .inl rfl | (refine Gok.mk2 (b := ?_) rfl ?_ ?_; rotate_left 1; (focus rfl); (focus (with_reducible rfl))))); (focus rfl); (focus (first | rfl | (simp only [go_sem, reduceIte, mk, mr, mn, mm] <;> rfl))); (focus (refine refNum_call _ _ (Nat.lt_succ_self _) ?_ <;> first | omega | assumption | decide | simp)); (focus rfl); (focus rfl); (focus (first | rfl | simp only [go_sem])); (focus (first | rfl | (simp only [go_sem, reduceIte, mk, mr, mn, mm] <;> rfl))); (focus simp); (focus (simp only [go_sem, reduceIte, mk, mr, mn, mm]; exact hK)))
      | (refine IL.callS (f := 32) (xs := ?_) (A := ?_) (A' := ?_) (rr := ?_) (σ' := ?_) (bs := ?_) (ks := ?_) (sets := ?_) (pushes := ?_) ttok ent32 [.bor] true ?_ ?_ ?_ ?_ ?_ ?_ ?_ ?_ ?_ (fun K hK => ?_) ?_; rotate_left 9; (focus (first | exact .inl rfl | (refine Gok.mk2 (b := ?_) rfl ?_ ?_; rotate_left 1; (focus rfl); (focus (with_reducible rfl))))); (focus rfl); (focus (first | rfl | (simp only [go_sem, reduceIte, mk, mr, mn, mm] <;> rfl))); (focus (refine refText_call _ ?_ <;> first | omega | assumption | decide | simp)); (focus rfl); (focus rfl); (focus (first | rfl | simp only [go_sem])); (focus (first | rfl | (simp only [go_sem, reduceIte, mk, mr, mn, mm] <;> rfl))); (focus simp); (focus (simp only [go_sem, reduceIte, mk, mr, mn, mm]; exact hK)))
      | (refine IL.callS (f := 33) (xs := ?_) (A := ?_) (A' := ?_) (rr := ?_) (σ' := ?_) (bs := ?_) (ks := ?_) (sets := ?_) (pushes := ?_) ttok ent33 [.bor] true ?_ ?_ ?_ ?_ ?_ ?_ ?_ ?_ ?_ (fun K hK => ?_) ?_; rotate_left 9; (focus (first | exact .inl rfl | (refine Gok.mk2 (b := ?_) rfl ?_ ?_; rotate_left 1; (focus rfl); (focus (with_reducible rfl))))); (focus rfl); (focus (first | rfl | (simp only [go_sem, reduceIte, mk, mr, mn, mm] <;> rfl))); (focus (refine refBytes_call _ _ ?_ ?_ ?_ <;> first | omega | assumption | decide | simp)); (focus rfl); (focus rfl); (focus (first | rfl | simp only [go_sem])); (focus (first | rfl | (simp only [go_sem, reduceIte, mk, mr, mn, mm] <;> rfl))); (focus simp); (focus (simp only [go_sem, reduceIte, mk, mr, mn, mm]; exact hK)))
      | ((first | (refine IL.askg (b := ?_) (d := ?_) ?_ ?_ (fun h => ?_) (fun h => ?_); rotate_left 2; (focus rfl); (focus rfl)) | (refine IL.askp (b := ?_) (d := ?_) ?_ ?_ (fun h => ?_) (fun h => ?_); rotate_left 2; (focus rfl); (focus rfl))); (fail_if_success (focus (simp only [reduceCtorEq] at h))); all_goals first | (simp only [Bool.and_eq_true, Bool.and_eq_false_iff, Bool.or_eq_true, Bool.or_eq_false_iff, Bool.not_eq_true', Bool.not_eq_false', beq_iff_eq, beq_eq_false_iff_ne, ne_eq, bne_iff_ne, bne_eq_false_iff_eq, decide_eq_true_eq, decide_eq_false_iff_not, Decidable.not_not] at h; first | done | (exfalso; omega; done) | skip) | skip)
      | (refine WK.cond (b := ?_) ?_ (fun h => ?_) (fun h => ?_); rotate_left 1; (focus rfl); all_goals first | (simp only [reduceCtorEq] at h; done) | (simp only [Bool.and_eq_true, Bool.and_eq_false_iff, Bool.or_eq_true, Bool.or_eq_false_iff, Bool.not_eq_true', Bool.not_eq_false', beq_iff_eq, beq_eq_false_iff_ne, ne_eq, bne_iff_ne, bne_eq_false_iff_eq, decide_eq_true_eq, decide_eq_false_iff_not, Decidable.not_not] at h; first | done | (exfalso; omega; done) | skip) | skip))
    all_goals try ((first | refine WK.ret ⟨.inr rfl, Fin.of (q' := ?_) (A2 := ?_) (k1 := ?_) (k2 := ?_) ?_ ?_ ?_ ?_ ?_⟩ | refine ⟨.inl rfl, Fin.of (q' := ?_) (A2 := ?_) (k1 := ?_) (k2 := ?_) ?_ ?_ ?_ ?_ ?_⟩ | refine ⟨.inl trivial, Fin.of (q' := ?_) (A2 := ?_) (k1 := ?_) (k2 := ?_) ?_ ?_ ?_ ?_ ?_⟩); rotate_left 4; (focus (first | rfl | (simp only [go_sem, show Try.f16.results.toList = [.tmp 2] from rfl, reduceIte] <;> rfl))); (focus (first | rfl | (simp only [go_sem, reduceIte] <;> rfl))); (focus rfl); rotate_left 1; (focus (first | rfl | skip)); all_goals try with_reducible rfl)
    all_goals ((try simp only [tk2, tk3, tk4]); simp [spansB, Nat.add_assoc])
  · rw [if_neg hk4.1, if_neg hk4.2.1, if_neg hk4.2.2]
    refine SCall.of_body' (TT := TT) (fun _ => false) [false] ttok Try.func16 rfl (Nat.le_of_ble_eq_true rfl) rfl fun fx hfx => WK.top ?_
    simp only [impl, imp, argT, List.append_nil, List.map_nil, List.nil_append, show Try.f16.ntmps = 63 from rfl, Nat.zero_add, Nat.reduceAdd]
    repeat' (first
      | refine WK.seq ?_
      | refine WK.reg ?_
      | refine IL.nil ?_
      | refine WK.skip ?_
      | refine WK.block ?_
      | refine WK.exit_here ?_
      | refine WK.exit_out1 (by decide) ?_
      | refine WK.exit_out2 (by decide) (by decide) ?_
      | (with_reducible refine IL.wr ?_ ?_; (focus (first | exact wrap_i64 (by omega) (by omega) | exact wrap_u64 (by omega) (by omega) | exact wrap_u32 (by omega) (by omega) | exact wrap_u16 (by omega) (by omega) | exact wrap_u8 (by omega) (by omega))))
      | (refine IL.stepg (σ' := ?_) ttok (by first | exact .inl rfl | (refine Gok.mk2 (b := ?_) rfl ?_ ?_; rotate_left 1; (focus rfl); (focus (with_reducible rfl)))) (fun K hK => ?_) ?_; rotate_left 1; (focus (simp only [go_sem, reduceIte, mk, mq]; first | exact hK | (and_intros <;> first | exact hK | omega | assumption | rfl | decide))))
      | (refine IL.no (σ' := ?_) (by first | (refine Gno.mkT (b := ?_) rfl ?_ ?_; rotate_left 1; (focus rfl); (focus (with_reducible rfl))) | (refine Gno.mkF (b := ?_) rfl ?_ ?_; rotate_left 1; (focus rfl); (focus (with_reducible rfl))) | exact Gno.mkU rfl rfl) (fun K hK => ?_) ?_; rotate_left 1; (focus (simp only [go_sem, reduceIte]; exact hK)))
      | (refine IL.callS (f := 31) (xs := ?_) (A := ?_) (A' := ?_) (rr := ?_) (σ' := ?_) (bs := ?_) (ks := ?_) (sets := ?_) (pushes := ?_) ttok ent31 [.bor] true ?_ ?_ ?_ ?_ ?_ ?_ ?_ ?_ ?_ (fun K hK => ?_) ?_; rotate_left 9; (focus (first | exact .inl rfl | (refine Gok.mk2 (b := ?_) rfl ?_ ?_; rotate_left 1; (focus rfl); (focus (with_reducible rfl))))); (focus rfl); (focus (first | rfl | (simp only [go_sem, reduceIte, mk, mq] <;> rfl))); (focus (refine refNum_call _ _ (Nat.lt_succ_self _) ?_ <;> first | omega | assumption | decide | simp)); (focus rfl); (focus rfl); (focus (first | rfl | simp only [go_sem])); (focus (first | rfl | (simp only [go_sem, reduceIte, mk, mq] <;> rfl))); (focus simp); (focus (simp only [go_sem, reduceIte, mk, mq]; exact hK)))
      | (refine IL.callS (f := 32) (xs := ?_) (A := ?_) (A' := ?_) (rr := ?_) (σ' := ?_) (bs := ?_) (ks := ?_) (sets := ?_) (pushes := ?_) ttok ent32 [.bor] true ?_ ?_ ?_ ?_ ?_ ?_ ?_ ?_ ?_ (fun K hK => ?_) ?_; rotate_left 9; (focus (first | exact .inl rfl | (refine Gok.mk2 (b := ?_) rfl ?_ ?_; rotate_left 1; (focus rfl); (focus (with_reducible rfl))))); (focus rfl); (focus (first | rfl | (simp only [go_sem, reduceIte, mk, mq] <;> rfl))); (focus (refine refText_call _ ?_ <;> first | omega | assumption | decide | simp)); (focus rfl); (focus rfl); (focus (first | rfl | simp only [go_sem])); (focus (first | rfl | (simp only [go_sem, reduceIte, mk, mq] <;> rfl))); (focus simp); (focus (simp only [go_sem, reduceIte, mk, mq]; exact hK)))
      | (refine IL.callS (f := 33) (xs := ?_) (A := ?_) (A' := ?_) (rr := ?_) (σ' := ?_) (bs := ?_) (ks := ?_) (sets := ?_) (pushes := ?_) ttok ent33 [.bor] true ?_ ?_ ?_ ?_ ?_ ?_ ?_ ?_ ?_ (fun K hK => ?_) ?_; rotate_left 9; (focus (first | exact .inl rfl | (refine Gok.mk2 (b := ?_) rfl ?_ ?_; rotate_left 1; (focus rfl); (focus (with_reducible rfl))))); (focus rfl); (focus (first | rfl | (simp only [go_sem, reduceIte, mk, mq] <;> rfl))); (focus (refine refBytes_call _ _ ?_ ?_ ?_ <;> first | omega | assumption | decide | simp)); (focus rfl); (focus rfl); (focus (first | rfl | simp only [go_sem])); (focus (first | rfl | (simp only [go_sem, reduceIte, mk, mq] <;> rfl))); (focus simp); (focus (simp only [go_sem, reduceIte, mk, mq]; exact hK)))
      | ((first | (refine IL.askg (b := ?_) (d := ?_) ?_ ?_ (fun h => ?_) (fun h => ?_); rotate_left 2; (focus rfl); (focus rfl)) | (refine IL.askp (b := ?_) (d := ?_) ?_ ?_ (fun h => ?_) (fun h => ?_); rotate_left 2; (focus rfl); (focus rfl))); (fail_if_success (focus (simp only [reduceCtorEq] at h))); all_goals first | (simp only [Bool.and_eq_true, Bool.and_eq_false_iff, Bool.or_eq_true, Bool.or_eq_false_iff, Bool.not_eq_true', Bool.not_eq_false', beq_iff_eq, beq_eq_false_iff_ne, ne_eq, bne_iff_ne, bne_eq_false_iff_eq, decide_eq_true_eq, decide_eq_false_iff_not, Decidable.not_not] at h; first | done | (exfalso; omega; done) | skip) | skip)
      | (refine WK.cond (b := ?_) ?_ (fun h => ?_) (fun h => ?_); rotate_left 1; (focus rfl); all_goals first | (simp only [reduceCtorEq] at h; done) | (simp only [Bool.and_eq_true, Bool.and_eq_false_iff, Bool.or_eq_true, Bool.or_eq_false_iff, Bool.not_eq_true', Bool.not_eq_false', beq_iff_eq, beq_eq_false_iff_ne, ne_eq, bne_iff_ne, bne_eq_false_iff_eq, decide_eq_true_eq, decide_eq_false_iff_not, Decidable.not_not] at h; first | done | (exfalso; omega; done) | skip) | skip))
    all_goals try ((first | refine WK.ret ⟨.inr rfl, Fin.of (q' := ?_) (A2 := ?_) (k1 := ?_) (k2 := ?_) ?_ ?_ ?_ ?_ ?_⟩ | refine ⟨.inl rfl, Fin.of (q' := ?_) (A2 := ?_) (k1 := ?_) (k2 := ?_) ?_ ?_ ?_ ?_ ?_⟩ | refine ⟨.inl trivial, Fin.of (q' := ?_) (A2 := ?_) (k1 := ?_) (k2 := ?_) ?_ ?_ ?_ ?_ ?_⟩); rotate_left 4; (focus (first | rfl | (simp only [go_sem, show Try.f16.results.toList = [.tmp 2] from rfl, reduceIte] <;> rfl))); (focus (first | rfl | (simp only [go_sem, reduceIte] <;> rfl))); (focus rfl); rotate_left 1; (focus (first | rfl | skip)); all_goals try with_reducible rfl)
    all_goals ((try simp only [tk2, tk3, tk4]); simp [spansB, Nat.add_assoc])
theorem getGo_spsN : ∀ (rest out : List Sp) (pre W : List UInt8), (∀ s ∈ rest, fits s) → W = pre ++ spsB rest → getGo W rest.length out pre.length 0 = (out ++ rest, W.length, 0)
  | [], out, pre, W, _, hW => by subst hW; simp [getGo, spsB]
  | s :: rest, out, pre, W, hf, hW => by
    obtain ⟨a, b, c, rfl, f1, f2, f3, f4, f5⟩ := fits_nat (hf s (by simp))
    have hW2 : W = pre ++ (numB a ++ (numB b ++ (numB c ++ spsB rest))) := by rw [hW]; simp [spsB, spB]
    have h1 := rNum_numB W pre.length a 65535 (numB b ++ (numB c ++ spsB rest)) (by rw [hW2]; simp) (by omega) f1
    have h2 := rNum_numB W (pre.length + (numB a).length) b 268435456 (numB c ++ spsB rest) (by rw [hW2, ← List.append_assoc, ← List.length_append, List.drop_left]) (by omega) f3
    have h3 := rNum_numB W (pre.length + (numB a).length + (numB b).length) c 1024 (spsB rest) (by rw [hW2, ← List.append_assoc, ← List.append_assoc, ← List.length_append, ← List.length_append, List.drop_left]) (by omega) f5
    have ih := getGo_spsN rest (out ++ [((a : Int), (b : Int), (c : Int))]) (pre ++ numB a ++ numB b ++ numB c) W (fun s hs => hf s (by simp [hs])) (by rw [hW2]; simp)
    rw [List.length_cons, getGo, rSp_of h1 h2 h3]
    simp only [if_true]
    simp only [List.length_append] at ih
    rw [ih]; simp
theorem rN (W pre : List UInt8) (a : Nat) (rest : List UInt8) (lim : Nat) (hW : W = pre ++ (numB a ++ rest)) (ha : a < 9223372036854775808) (hl : a ≤ lim) : rNum W pre.length 0 lim = (a, (pre ++ numB a).length, 0) := by
  rw [rNum_numB W pre.length a lim rest (by rw [hW]; simp) ha hl]; simp
theorem gS (W pre : List UInt8) (s : List Sp) (hf : ∀ x ∈ s, fits x) (hs : s.length ≤ 1024) (hW : W = pre ++ spansB s) : getS W pre.length 0 = (s, W.length, 0) := by
  have h1 := rN W pre s.length (spsB s) 1024 (by rw [hW]; rfl) (by omega) hs
  unfold getS
  rw [h1]
  exact getGo_spsN s [] (pre ++ numB s.length) W hf (by rw [hW]; simp [spansB])
theorem rOp_opB (k r n m q : Nat) (t : List UInt8) (s : List Sp) (hr : r ≤ 65535) (hn : n ≤ 268435456) (hm : m ≤ 268435456) (hq : q ≤ 268435456) (ht : t.length ≤ 64) (hs : s.length ≤ 1000) (hf : ∀ x ∈ s, fits x)
    (hg : (k = 1 ∧ s = [] ∧ q = 0) ∨ (k = 2 ∧ t = [] ∧ q = 0 ∧ r = 0 ∧ n = 0 ∧ m = 0) ∨ (k = 3 ∧ t = [] ∧ q = 0) ∨ ((k = 4 ∨ k = 5) ∧ t = [] ∧ s = [] ∧ r = 0 ∧ n = 0 ∧ m = 0)) :
    rOp (opB k r n m t s q) 0 0 = (⟨k, r, n, m, t, s, q⟩, (opB k r n m t s q).length, 0) := by
  have hk : k ≤ 5 := by omega
  obtain ⟨rfl, rfl, rfl⟩ | ⟨rfl, rfl, rfl, rfl, rfl, rfl⟩ | ⟨rfl, rfl, rfl⟩ | ⟨h45, rfl, rfl, rfl, rfl, rfl⟩ := hg
  · have e : opB 1 r n m t [] 0 = numB 1 ++ numB r ++ numB n ++ numB m ++ numB t.length ++ t := by unfold opB; rw [if_pos rfl]
    generalize opB 1 r n m t [] 0 = W at *
    have h1 := rN W [] 1 (numB r ++ (numB n ++ (numB m ++ (numB t.length ++ t)))) 5 (by rw [e]; simp) (by omega) (by omega)
    have h2 := rN W ([] ++ numB 1) r (numB n ++ (numB m ++ (numB t.length ++ t))) 65535 (by rw [e]; simp) (by omega) hr
    have h3 := rN W ([] ++ numB 1 ++ numB r) n (numB m ++ (numB t.length ++ t)) 268435456 (by rw [e]; simp) (by omega) hn
    have h4 := rN W ([] ++ numB 1 ++ numB r ++ numB n) m (numB t.length ++ t) 268435456 (by rw [e]; simp) (by omega) hm
    have h5 := rText_numB W t ([] ++ numB 1 ++ numB r ++ numB n ++ numB m).length 64 [] (by rw [show W = ([] ++ numB 1 ++ numB r ++ numB n ++ numB m) ++ (numB t.length ++ (t ++ [])) by rw [e]; simp, List.drop_left]) (by omega) ht (by rw [e]; simp only [List.nil_append, List.length_append]; omega)
    rw [show ([] : List UInt8).length = 0 from rfl] at h1
    have h6 := r3_of h2 h3 h4
    unfold rOp
    rw [h1]
    simp only [rOpE, rOpV, if_true, true_or, h6, h5, fin3]
    simp [e, Nat.add_assoc]
  · have e : opB 2 0 0 0 [] s 0 = numB 2 ++ spansB s := by unfold opB; rw [if_neg (by decide), if_pos rfl]; simp [spansB]
    generalize opB 2 0 0 0 [] s 0 = W at *
    have h1 := rN W [] 2 (spansB s) 5 (by rw [e]; simp) (by omega) (by omega)
    have h5 := gS W ([] ++ numB 2) s hf (by omega) (by rw [e]; simp)
    rw [show ([] : List UInt8).length = 0 from rfl] at h1
    unfold rOp
    rw [h1]
    rw [show rOpE W 2 (rOpV 2 ((([] : List UInt8) ++ numB 2).length, (0 : Int)) W) = fin3 ⟨2, 0, 0, 0, [], (getS W (([] : List UInt8) ++ numB 2).length 0).1, 0⟩ (getS W (([] : List UInt8) ++ numB 2).length 0).2 from rfl, h5]
    simp [fin3]
  · have e : opB 3 r n m [] s 0 = numB 3 ++ numB r ++ numB n ++ numB m ++ spansB s := by unfold opB; rw [if_neg (by decide), if_neg (by decide), if_pos rfl]; simp [spansB]
    generalize opB 3 r n m [] s 0 = W at *
    have h1 := rN W [] 3 (numB r ++ (numB n ++ (numB m ++ (spansB s)))) 5 (by rw [e]; simp) (by omega) (by omega)
    have h2 := rN W ([] ++ numB 3) r (numB n ++ (numB m ++ (spansB s))) 65535 (by rw [e]; simp) (by omega) hr
    have h3 := rN W ([] ++ numB 3 ++ numB r) n (numB m ++ (spansB s)) 268435456 (by rw [e]; simp) (by omega) hn
    have h4 := rN W ([] ++ numB 3 ++ numB r ++ numB n) m (spansB s) 268435456 (by rw [e]; simp) (by omega) hm
    have h5 := gS W ([] ++ numB 3 ++ numB r ++ numB n ++ numB m) s hf (by omega) (by rw [e]; simp)
    rw [show ([] : List UInt8).length = 0 from rfl] at h1
    have h6 := r3_of h2 h3 h4
    unfold rOp
    rw [h1]
    rw [show rOpV 3 ((([] : List UInt8) ++ numB 3).length, (0 : Int)) W = r3 W (([] : List UInt8) ++ numB 3).length 0 from rfl, h6]
    rw [show rOpE W 3 ((r, n, m), (([] : List UInt8) ++ numB 3 ++ numB r ++ numB n ++ numB m).length, (0 : Int)) = fin3 ⟨3, r, n, m, [], (getS W (([] : List UInt8) ++ numB 3 ++ numB r ++ numB n ++ numB m).length 0).1, 0⟩ (getS W (([] : List UInt8) ++ numB 3 ++ numB r ++ numB n ++ numB m).length 0).2 from rfl, h5]
    simp [fin3]
  · have e : opB k 0 0 0 [] [] q = numB k ++ numB q := by unfold opB; rw [if_neg (by omega), if_neg (by omega), if_neg (by omega)]
    generalize opB k 0 0 0 [] [] q = W at *
    have h1 := rN W [] k (numB q) 5 (by rw [e]; simp) (by omega) (by omega)
    have h5 := rN W ([] ++ numB k) q [] 268435456 (by rw [e]; simp) (by omega) hq
    rw [show ([] : List UInt8).length = 0 from rfl] at h1
    unfold rOp
    rw [h1]
    simp only [rOpE, rOpV]
    rw [if_neg (by omega), if_neg (by omega), if_neg (by omega), h5]
    simp [fin3, e]
end Go.Proofs.Ytolbmgkoifchfaa
