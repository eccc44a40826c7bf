/- package op: writing an operation. -/
import Derived.Test.YtolbmgkoifchfaaLX4O1
namespace Go.Proofs.Ytolbmgkoifchfaa
open Go Go.Lift
set_option maxHeartbeats 8000000
set_option linter.unusedSimpArgs false
set_option linter.unusedVariables false
attribute [local irreducible] WK IL IP IG IW DW

theorem putW_call (V : List UInt8) (l : List Sp) (hV : V.length ≤ 1000) (hl : l.length ≤ 100000) (hf : ∀ s ∈ l, fits s) (n : Nat) (hn : n = l.length) : SCall Try.prog 30 [wrO V, .tr n (encs spC l)] (.tup []) [wrO (V ++ numB l.length ++ spsB l), .tr n (encs spC l)] := by
  subst hn
  have hn0 := numB_le 9 l.length (by omega)
  have hV0 : (V ++ numB l.length).length ≤ 1010 := by rw [List.length_append]; omega
  have hm0 : l.length % 9223372036854775808 = l.length := Nat.mod_eq_of_lt (by omega)
  refine SCall.of_body' (TT := TT) (fun k => decide (k < 1)) [false, false] ttok Try.func30 rfl (Nat.le_of_ble_eq_true rfl) rfl fun fx hfx => WK.top ?_
  simp only [impl, imp, argT, List.append_nil, List.map_nil, List.map_cons, List.nil_append, List.cons_append, List.length_cons, List.length_nil, show Try.f30.ntmps = 35 from rfl, Nat.zero_add, Nat.reduceAdd]
  repeat' (first
    | refine WK.seq ?_
    | refine WK.reg ?_
    | refine IL.nil ?_
    | refine WK.skip ?_
    | refine WK.block ?_
    | refine WK.exit_here ?_
    | refine WK.exit_out1 (by decide) ?_
    | refine WK.exit_out2 (by decide) (by decide) ?_
    | (with_reducible refine IL.wr ?_ ?_; (focus (first | exact wrap_i64 (by omega) (by omega) | exact wrap_u64 (by omega) (by omega) | exact wrap_u32 (by omega) (by omega) | exact wrap_u16 (by omega) (by omega) | exact wrap_u8 (by omega) (by omega))))
    | (refine IL.stepg (σ' := ?_) ttok (by first | exact .inl rfl | (refine Gok.mk2 (b := ?_) rfl ?_ ?_; rotate_left 1; (focus rfl); (focus (with_reducible rfl)))) (fun K hK => ?_) ?_; rotate_left 1; (focus (simp only [go_sem, reduceIte, hm0]; first | exact hK | (and_intros <;> first | exact hK | omega | assumption | rfl | decide))))
    | (refine IL.no (σ' := ?_) (by first | (refine Gno.mkT (b := ?_) rfl ?_ ?_; rotate_left 1; (focus rfl); (focus (with_reducible rfl))) | (refine Gno.mkF (b := ?_) rfl ?_ ?_; rotate_left 1; (focus rfl); (focus (with_reducible rfl))) | exact Gno.mkU rfl rfl) (fun K hK => ?_) ?_; rotate_left 1; (focus (simp only [go_sem, reduceIte]; exact hK)))
    | (refine IL.callS (f := 28) (xs := ?_) (A := ?_) (A' := ?_) (rr := ?_) (σ' := ?_) (bs := ?_) (ks := ?_) (sets := ?_) (pushes := ?_) ttok ent28 [.own, .bor] true ?_ ?_ ?_ ?_ ?_ ?_ ?_ ?_ ?_ (fun K hK => ?_) ?_; rotate_left 9; (focus (first | exact .inl rfl | (refine Gok.mk2 (b := ?_) rfl ?_ ?_; rotate_left 1; (focus rfl); (focus (with_reducible rfl))))); (focus rfl); (focus (first | rfl | (simp only [go_sem, reduceIte, hm0] <;> rfl))); (focus (refine wnum_call _ _ ?_ ?_ <;> first | omega | assumption | decide | simp)); (focus rfl); (focus rfl); (focus (first | rfl | simp only [go_sem])); (focus (first | rfl | (simp only [go_sem, reduceIte, hm0] <;> rfl))); (focus simp); (focus (simp only [go_sem, reduceIte, hm0]; exact hK)))
    | ((first | (refine IL.askg (b := ?_) (d := ?_) ?_ ?_ (fun h => ?_) (fun h => ?_); rotate_left 2; (focus rfl); (focus rfl)) | (refine IL.askp (b := ?_) (d := ?_) ?_ ?_ (fun h => ?_) (fun h => ?_); rotate_left 2; (focus rfl); (focus rfl))); (fail_if_success (focus (simp only [reduceCtorEq] at h))); all_goals first | (simp only [Bool.and_eq_true, Bool.and_eq_false_iff, Bool.or_eq_true, Bool.or_eq_false_iff, Bool.not_eq_true', Bool.not_eq_false', beq_iff_eq, beq_eq_false_iff_ne, ne_eq, bne_iff_ne, bne_eq_false_iff_eq, decide_eq_true_eq, decide_eq_false_iff_not, Decidable.not_not] at h; first | done | (exfalso; omega; done) | skip) | skip)
    | (refine WK.cond (b := ?_) ?_ (fun h => ?_) (fun h => ?_); rotate_left 1; (focus rfl); all_goals first | (simp only [reduceCtorEq] at h; done) | (simp only [Bool.and_eq_true, Bool.and_eq_false_iff, Bool.or_eq_true, Bool.or_eq_false_iff, Bool.not_eq_true', Bool.not_eq_false', beq_iff_eq, beq_eq_false_iff_ne, ne_eq, bne_iff_ne, bne_eq_false_iff_eq, decide_eq_true_eq, decide_eq_false_iff_not, Decidable.not_not] at h; first | done | (exfalso; omega; done) | skip) | skip))
  refine WK.forS l.length (fun k => True) (fun k => ⟨35, [(0, .ptr 0 0 0), (1, .tr l.length (encs spC l)), (11, .tr l.length (encs spC l)), (12, .v (.int .i64 l.length)), (13, .v (.int .i64 k))], [some ⟨false, 0, 1, false, [.sl 1 0 0 (V ++ numB l.length ++ spsB (l.take k)).length], 0, false⟩, some ⟨true, 5, (V ++ numB l.length ++ spsB (l.take k)).length, true, bcells (V ++ numB l.length ++ spsB (l.take k)), 0, false⟩]⟩) ⟨trivial, ?_⟩ (fun k hk ho => ?_) (fun ho => ?_)
  · have e0 : V ++ numB l.length ++ spsB (l.take 0) = V ++ numB l.length := by simp [spsB]
    rw [e0]
    (refine Weak.renP 1 [0, 2] hfx (fun k h => of_decide_eq_true h) (fun k hk => by obtain rfl : k = 0 := (by omega); exact ⟨rfl, _, rfl, rfl⟩) rfl ?_ ?_ rfl <;> (simp only [go_sem, reduceIte, exists_eq_left', exists_eq_left, Blk.mk.injEq] <;> (try and_intros) <;> first | rfl | omega))
  · have hx : l[k]? = some l[k] := List.getElem?_eq_getElem hk
    have htk := spsB_take l k _ hx
    have hlk := spsB_len (l.take k) fun s hs => hf s (List.mem_of_mem_take hs)
    rw [List.length_take] at hlk
    have hfk := hf l[k] (List.getElem_mem hk)
    generalize l[k] = s at *
    obtain ⟨a, b, c, rfl, h1, h2, h3, h4, h5⟩ := fits_nat hfk
    have hle : k * 3 + 3 ≤ l.length * 3 := by omega
    have hat : ((encs spC l).drop (k * 3)).take 3 = [.v (.int .u16 (a : Int)), .v (.int .u32 (b : Int)), .v (.int .i64 (c : Int))] := encs_at spC_length hx
    have hne : encs spC l ≠ [] := encs_ne spC_length (by decide) hx
    have ma : a % 9223372036854775808 = a := Nat.mod_eq_of_lt (by omega)
    have mb : b % 9223372036854775808 = b := Nat.mod_eq_of_lt (by omega)
    have mc : c % 9223372036854775808 = c := Nat.mod_eq_of_lt (by omega)
    have e1 := numB_le 9 a (by omega)
    have e2 := numB_le 9 b (by omega)
    have hW : V ++ numB l.length ++ spsB (l.take (k + 1)) = V ++ numB l.length ++ spsB (l.take k) ++ numB a ++ numB b ++ numB c := by rw [htk]; simp [spB]
    have hWl : (V ++ numB l.length ++ spsB (l.take k)).length ≤ 3100010 := by rw [List.length_append]; omega
    have hWl1 : (V ++ numB l.length ++ spsB (l.take k) ++ numB a).length ≤ 3100020 := by rw [List.length_append]; omega
    have hWl2 : (V ++ numB l.length ++ spsB (l.take k) ++ numB a ++ numB b).length ≤ 3100030 := by rw [List.length_append]; omega
    rw [hW]
    generalize V ++ numB l.length ++ spsB (l.take k) = W at *
    repeat' (first
      | refine WK.seq ?_
      | refine WK.reg ?_
      | refine IL.nil ?_
      | refine WK.skip ?_
      | refine WK.block ?_
      | refine WK.exit_here ?_
      | refine WK.exit_out1 (by decide) ?_
      | refine WK.exit_out2 (by decide) (by decide) ?_
      | (with_reducible refine IL.wr ?_ ?_; (focus (first | exact wrap_i64 (by omega) (by omega) | exact wrap_u64 (by omega) (by omega) | exact wrap_u32 (by omega) (by omega) | exact wrap_u16 (by omega) (by omega) | exact wrap_u8 (by omega) (by omega))))
      | (refine IL.stepg (σ' := ?_) ttok (by first | exact .inl rfl | (refine Gok.mk2 (b := ?_) rfl ?_ ?_; rotate_left 1; (focus rfl); (focus (with_reducible rfl)))) (fun K hK => ?_) ?_; rotate_left 1; (focus (simp only [go_sem, reduceIte, hat, hle, ma, mb, mc]; first | exact hK | (and_intros <;> first | exact hK | omega | assumption | rfl | decide))))
      | (refine IL.no (σ' := ?_) (by first | (refine Gno.mkT (b := ?_) rfl ?_ ?_; rotate_left 1; (focus rfl); (focus (with_reducible rfl))) | (refine Gno.mkF (b := ?_) rfl ?_ ?_; rotate_left 1; (focus rfl); (focus (with_reducible rfl))) | exact Gno.mkU rfl rfl) (fun K hK => ?_) ?_; rotate_left 1; (focus (simp only [go_sem, reduceIte]; exact hK)))
      | (refine IL.callS (f := 28) (xs := ?_) (A := ?_) (A' := ?_) (rr := ?_) (σ' := ?_) (bs := ?_) (ks := ?_) (sets := ?_) (pushes := ?_) ttok ent28 [.own, .bor] true ?_ ?_ ?_ ?_ ?_ ?_ ?_ ?_ ?_ (fun K hK => ?_) ?_; rotate_left 9; (focus (first | exact .inl rfl | (refine Gok.mk2 (b := ?_) rfl ?_ ?_; rotate_left 1; (focus rfl); (focus (with_reducible rfl))))); (focus rfl); (focus (first | rfl | (simp only [go_sem, reduceIte, hat, hle, ma, mb, mc] <;> rfl))); (focus (refine wnum_call _ _ ?_ ?_ <;> first | omega | assumption | decide | simp)); (focus rfl); (focus rfl); (focus (first | rfl | simp only [go_sem])); (focus (first | rfl | (simp only [go_sem, reduceIte, hat, hle, ma, mb, mc] <;> rfl))); (focus simp); (focus (simp only [go_sem, reduceIte, hat, hle, ma, mb, mc]; exact hK)))
      | ((first | (refine IL.askg (b := ?_) (d := ?_) ?_ ?_ (fun h => ?_) (fun h => ?_); rotate_left 2; (focus rfl); (focus rfl)) | (refine IL.askp (b := ?_) (d := ?_) ?_ ?_ (fun h => ?_) (fun h => ?_); rotate_left 2; (focus rfl); (focus rfl))); (fail_if_success (focus (simp only [reduceCtorEq] at h))); all_goals first | (simp only [Bool.and_eq_true, Bool.and_eq_false_iff, Bool.or_eq_true, Bool.or_eq_false_iff, Bool.not_eq_true', Bool.not_eq_false', beq_iff_eq, beq_eq_false_iff_ne, ne_eq, bne_iff_ne, bne_eq_false_iff_eq, decide_eq_true_eq, decide_eq_false_iff_not, Decidable.not_not] at h; first | done | (exfalso; omega; done) | skip) | skip)
      | (refine WK.cond (b := ?_) ?_ (fun h => ?_) (fun h => ?_); rotate_left 1; (focus rfl); all_goals first | (simp only [reduceCtorEq] at h; done) | (simp only [Bool.and_eq_true, Bool.and_eq_false_iff, Bool.or_eq_true, Bool.or_eq_false_iff, Bool.not_eq_true', Bool.not_eq_false', beq_iff_eq, beq_eq_false_iff_ne, ne_eq, bne_iff_ne, bne_eq_false_iff_eq, decide_eq_true_eq, decide_eq_false_iff_not, Decidable.not_not] at h; first | done | (exfalso; omega; done) | skip) | skip))
    all_goals try ((first | refine WK.ret ⟨.inr rfl, Fin.of (q' := ?_) (A2 := ?_) (k1 := ?_) (k2 := ?_) ?_ ?_ ?_ ?_ ?_⟩ | refine ⟨.inl rfl, Fin.of (q' := ?_) (A2 := ?_) (k1 := ?_) (k2 := ?_) ?_ ?_ ?_ ?_ ?_⟩ | refine ⟨.inl trivial, Fin.of (q' := ?_) (A2 := ?_) (k1 := ?_) (k2 := ?_) ?_ ?_ ?_ ?_ ?_⟩); rotate_left 4; (focus (first | rfl | (simp only [go_sem, show Try.f30.results.toList = [] from rfl, reduceIte] <;> rfl))); (focus (first | rfl | (simp only [go_sem, reduceIte] <;> rfl))); (focus rfl); rotate_left 1; (focus (first | rfl | skip)); all_goals try with_reducible rfl)
    refine ⟨trivial, ?_⟩
    (refine Weak.renP 1 [0, 5] hfx (fun k h => of_decide_eq_true h) (fun k hk => by obtain rfl : k = 0 := (by omega); exact ⟨rfl, _, rfl, rfl⟩) rfl ?_ ?_ rfl <;> (simp only [go_sem, reduceIte, exists_eq_left', exists_eq_left, Blk.mk.injEq] <;> (try and_intros) <;> first | rfl | omega))
  · rw [List.take_length]
    repeat' (first
      | refine WK.seq ?_
      | refine WK.reg ?_
      | refine IL.nil ?_
      | refine WK.skip ?_
      | refine WK.block ?_
      | refine WK.exit_here ?_
      | refine WK.exit_out1 (by decide) ?_
      | refine WK.exit_out2 (by decide) (by decide) ?_
      | (with_reducible refine IL.wr ?_ ?_; (focus (first | exact wrap_i64 (by omega) (by omega) | exact wrap_u64 (by omega) (by omega) | exact wrap_u32 (by omega) (by omega) | exact wrap_u16 (by omega) (by omega) | exact wrap_u8 (by omega) (by omega))))
      | (refine IL.stepg (σ' := ?_) ttok (by first | exact .inl rfl | (refine Gok.mk2 (b := ?_) rfl ?_ ?_; rotate_left 1; (focus rfl); (focus (with_reducible rfl)))) (fun K hK => ?_) ?_; rotate_left 1; (focus (simp only [go_sem, reduceIte]; first | exact hK | (and_intros <;> first | exact hK | omega | assumption | rfl | decide))))
      | (refine IL.no (σ' := ?_) (by first | (refine Gno.mkT (b := ?_) rfl ?_ ?_; rotate_left 1; (focus rfl); (focus (with_reducible rfl))) | (refine Gno.mkF (b := ?_) rfl ?_ ?_; rotate_left 1; (focus rfl); (focus (with_reducible rfl))) | exact Gno.mkU rfl rfl) (fun K hK => ?_) ?_; rotate_left 1; (focus (simp only [go_sem, reduceIte]; exact hK)))
      | (refine IL.callS (f := 28) (xs := ?_) (A := ?_) (A' := ?_) (rr := ?_) (σ' := ?_) (bs := ?_) (ks := ?_) (sets := ?_) (pushes := ?_) ttok ent28 [.own, .bor] true ?_ ?_ ?_ ?_ ?_ ?_ ?_ ?_ ?_ (fun K hK => ?_) ?_; rotate_left 9; (focus (first | exact .inl rfl | (refine Gok.mk2 (b := ?_) rfl ?_ ?_; rotate_left 1; (focus rfl); (focus (with_reducible rfl))))); (focus rfl); (focus (first | rfl | (simp only [go_sem, reduceIte] <;> rfl))); (focus (refine wnum_call _ _ ?_ ?_ <;> first | omega | assumption | decide | simp)); (focus rfl); (focus rfl); (focus (first | rfl | simp only [go_sem])); (focus (first | rfl | (simp only [go_sem, reduceIte] <;> rfl))); (focus simp); (focus (simp only [go_sem, reduceIte]; exact hK)))
      | ((first | (refine IL.askg (b := ?_) (d := ?_) ?_ ?_ (fun h => ?_) (fun h => ?_); rotate_left 2; (focus rfl); (focus rfl)) | (refine IL.askp (b := ?_) (d := ?_) ?_ ?_ (fun h => ?_) (fun h => ?_); rotate_left 2; (focus rfl); (focus rfl))); (fail_if_success (focus (simp only [reduceCtorEq] at h))); all_goals first | (simp only [Bool.and_eq_true, Bool.and_eq_false_iff, Bool.or_eq_true, Bool.or_eq_false_iff, Bool.not_eq_true', Bool.not_eq_false', beq_iff_eq, beq_eq_false_iff_ne, ne_eq, bne_iff_ne, bne_eq_false_iff_eq, decide_eq_true_eq, decide_eq_false_iff_not, Decidable.not_not] at h; first | done | (exfalso; omega; done) | skip) | skip)
      | (refine WK.cond (b := ?_) ?_ (fun h => ?_) (fun h => ?_); rotate_left 1; (focus rfl); all_goals first | (simp only [reduceCtorEq] at h; done) | (simp only [Bool.and_eq_true, Bool.and_eq_false_iff, Bool.or_eq_true, Bool.or_eq_false_iff, Bool.not_eq_true', Bool.not_eq_false', beq_iff_eq, beq_eq_false_iff_ne, ne_eq, bne_iff_ne, bne_eq_false_iff_eq, decide_eq_true_eq, decide_eq_false_iff_not, Decidable.not_not] at h; first | done | (exfalso; omega; done) | skip) | skip))
    all_goals try ((first | refine WK.ret ⟨.inr rfl, Fin.of (q' := ?_) (A2 := ?_) (k1 := ?_) (k2 := ?_) ?_ ?_ ?_ ?_ ?_⟩ | refine ⟨.inl rfl, Fin.of (q' := ?_) (A2 := ?_) (k1 := ?_) (k2 := ?_) ?_ ?_ ?_ ?_ ?_⟩ | refine ⟨.inl trivial, Fin.of (q' := ?_) (A2 := ?_) (k1 := ?_) (k2 := ?_) ?_ ?_ ?_ ?_ ?_⟩); rotate_left 4; (focus (first | rfl | (simp only [go_sem, show Try.f30.results.toList = [] from rfl, reduceIte] <;> rfl))); (focus (first | rfl | (simp only [go_sem, reduceIte] <;> rfl))); (focus rfl); rotate_left 1; (focus (first | rfl | skip)); all_goals try with_reducible rfl)
    all_goals skip
def opB (k r n m : Nat) (t : List UInt8) (s : List Sp) (q : Nat) : List UInt8 :=
  if k = 1 then numB k ++ numB r ++ numB n ++ numB m ++ numB t.length ++ t
  else if k = 2 then numB k ++ numB s.length ++ spsB s
  else if k = 3 then numB k ++ numB r ++ numB n ++ numB m ++ numB s.length ++ spsB s
  else numB k ++ numB q
theorem opPut_call (k r n m q : Nat) (t : List UInt8) (s : List Sp) (nn : Nat) (hnn : nn = s.length) (hk : k < 100) (hr : r < 65536) (hn : n < 4294967296) (hm : m < 4294967296) (hq : q < 4294967296) (ht : t.length ≤ 1000) (hs : s.length ≤ 1000) (hf : ∀ x ∈ s, fits x) :
    SCall Try.prog 14 [.agg (opL k r n m t (.tr nn (encs spC s)) q), wrO []] (.tup []) [.agg (opL k r n m t (.tr nn (encs spC s)) q), wrO (opB k r n m t s q)] := by
  subst hnn
  have mk : k % 9223372036854775808 = k := Nat.mod_eq_of_lt (by omega)
  have mr : r % 9223372036854775808 = r := Nat.mod_eq_of_lt (by omega)
  have mn : n % 9223372036854775808 = n := Nat.mod_eq_of_lt (by omega)
  have mm : m % 9223372036854775808 = m := Nat.mod_eq_of_lt (by omega)
  have mq : q % 9223372036854775808 = q := Nat.mod_eq_of_lt (by omega)
  have l1 := numB_le 9 k (by omega)
  have l2 := numB_le 9 r (by omega)
  have l3 := numB_le 9 n (by omega)
  have l4 := numB_le 9 m (by omega)
  have g1 : (numB k ++ numB r).length ≤ 20 := by rw [List.length_append]; omega
  have g2 : (numB k ++ numB r ++ numB n).length ≤ 30 := by rw [List.length_append]; omega
  have g3 : (numB k ++ numB r ++ numB n ++ numB m).length ≤ 40 := by rw [List.length_append]; omega
  unfold opB
  obtain rfl | rfl | rfl | hk4 : k = 1 ∨ k = 2 ∨ k = 3 ∨ (¬ k = 1 ∧ ¬ k = 2 ∧ ¬ k = 3) := by omega
  · rw [if_pos rfl]
    refine SCall.of_body' (TT := TT) (fun k => decide (k < 1)) [false, false] ttok Try.func14 rfl (Nat.le_of_ble_eq_true rfl) rfl fun fx hfx => WK.top ?_
    simp only [impl, imp, argT, List.append_nil, List.map_nil, List.map_cons, List.nil_append, List.cons_append, List.length_cons, List.length_nil, show Try.f14.ntmps = 54 from rfl, Nat.zero_add, Nat.reduceAdd]
    repeat' (first
      | refine WK.seq ?_
      | refine WK.reg ?_
      | refine IL.nil ?_
      | refine WK.skip ?_
      | refine WK.block ?_
      | refine WK.exit_here ?_
      | refine WK.exit_out1 (by decide) ?_
      | refine WK.exit_out2 (by decide) (by decide) ?_
      | (with_reducible refine IL.wr ?_ ?_; (focus (first | exact wrap_i64 (by omega) (by omega) | exact wrap_u64 (by omega) (by omega) | exact wrap_u32 (by omega) (by omega) | exact wrap_u16 (by omega) (by omega) | exact wrap_u8 (by omega) (by omega))))
      | (refine IL.stepg (σ' := ?_) ttok (by first | exact .inl rfl | (refine Gok.mk2 (b := ?_) rfl ?_ ?_; rotate_left 1; (focus rfl); (focus (with_reducible rfl)))) (fun K hK => ?_) ?_; rotate_left 1; (focus (simp only [go_sem, reduceIte, mk, mr, mn, mm, List.nil_append]; first | exact hK | (and_intros <;> first | exact hK | omega | assumption | rfl | decide))))
      | (refine IL.no (σ' := ?_) (by first | (refine Gno.mkT (b := ?_) rfl ?_ ?_; rotate_left 1; (focus rfl); (focus (with_reducible rfl))) | (refine Gno.mkF (b := ?_) rfl ?_ ?_; rotate_left 1; (focus rfl); (focus (with_reducible rfl))) | exact Gno.mkU rfl rfl) (fun K hK => ?_) ?_; rotate_left 1; (focus (simp only [go_sem, reduceIte]; exact hK)))
      | (refine IL.callS (f := 28) (xs := ?_) (A := ?_) (A' := ?_) (rr := ?_) (σ' := ?_) (bs := ?_) (ks := ?_) (sets := ?_) (pushes := ?_) ttok ent28 [.own, .bor] true ?_ ?_ ?_ ?_ ?_ ?_ ?_ ?_ ?_ (fun K hK => ?_) ?_; rotate_left 9; (focus (first | exact .inl rfl | (refine Gok.mk2 (b := ?_) rfl ?_ ?_; rotate_left 1; (focus rfl); (focus (with_reducible rfl))))); (focus rfl); (focus (first | rfl | (simp only [go_sem, reduceIte, mk, mr, mn, mm, List.nil_append] <;> rfl))); (focus (refine wnum_call _ _ ?_ ?_ <;> first | omega | assumption | decide | simp)); (focus rfl); (focus rfl); (focus (first | rfl | simp only [go_sem])); (focus (first | rfl | (simp only [go_sem, reduceIte, mk, mr, mn, mm, List.nil_append] <;> rfl))); (focus simp); (focus (simp only [go_sem, reduceIte, mk, mr, mn, mm, List.nil_append]; exact hK)))
      | (refine IL.callS (f := 29) (xs := ?_) (A := ?_) (A' := ?_) (rr := ?_) (σ' := ?_) (bs := ?_) (ks := ?_) (sets := ?_) (pushes := ?_) ttok ent29 [.own, .bor] true ?_ ?_ ?_ ?_ ?_ ?_ ?_ ?_ ?_ (fun K hK => ?_) ?_; rotate_left 9; (focus (first | exact .inl rfl | (refine Gok.mk2 (b := ?_) rfl ?_ ?_; rotate_left 1; (focus rfl); (focus (with_reducible rfl))))); (focus rfl); (focus (first | rfl | (simp only [go_sem, reduceIte, mk, mr, mn, mm, List.nil_append] <;> rfl))); (focus (refine wtext_call _ _ ?_ ?_ <;> first | omega | assumption | decide | simp)); (focus rfl); (focus rfl); (focus (first | rfl | simp only [go_sem])); (focus (first | rfl | (simp only [go_sem, reduceIte, mk, mr, mn, mm, List.nil_append] <;> rfl))); (focus simp); (focus (simp only [go_sem, reduceIte, mk, mr, mn, mm, List.nil_append]; exact hK)))
      | (refine IL.callS (f := 30) (xs := ?_) (A := ?_) (A' := ?_) (rr := ?_) (σ' := ?_) (bs := ?_) (ks := ?_) (sets := ?_) (pushes := ?_) ttok ent30 [.own, .bor] true ?_ ?_ ?_ ?_ ?_ ?_ ?_ ?_ ?_ (fun K hK => ?_) ?_; rotate_left 9; (focus (first | exact .inl rfl | (refine Gok.mk2 (b := ?_) rfl ?_ ?_; rotate_left 1; (focus rfl); (focus (with_reducible rfl))))); (focus rfl); (focus (first | rfl | (simp only [go_sem, reduceIte, mk, mr, mn, mm, List.nil_append] <;> rfl))); (focus (refine putW_call _ _ ?_ ?_ ?_ _ ?_ <;> first | omega | assumption | decide | simp)); (focus rfl); (focus rfl); (focus (first | rfl | simp only [go_sem])); (focus (first | rfl | (simp only [go_sem, reduceIte, mk, mr, mn, mm, List.nil_append] <;> rfl))); (focus simp); (focus (simp only [go_sem, reduceIte, mk, mr, mn, mm, List.nil_append]; exact hK)))
      | ((first | (refine IL.askg (b := ?_) (d := ?_) ?_ ?_ (fun h => ?_) (fun h => ?_); rotate_left 2; (focus rfl); (focus rfl)) | (refine IL.askp (b := ?_) (d := ?_) ?_ ?_ (fun h => ?_) (fun h => ?_); rotate_left 2; (focus rfl); (focus rfl))); (fail_if_success (focus (simp only [reduceCtorEq] at h))); all_goals first | (simp only [Bool.and_eq_true, Bool.and_eq_false_iff, Bool.or_eq_true, Bool.or_eq_false_iff, Bool.not_eq_true', Bool.not_eq_false', beq_iff_eq, beq_eq_false_iff_ne, ne_eq, bne_iff_ne, bne_eq_false_iff_eq, decide_eq_true_eq, decide_eq_false_iff_not, Decidable.not_not] at h; first | done | (exfalso; omega; done) | skip) | skip)
      | (refine WK.cond (b := ?_) ?_ (fun h => ?_) (fun h => ?_); rotate_left 1; (focus rfl); all_goals first | (simp only [reduceCtorEq] at h; done) | (simp only [Bool.and_eq_true, Bool.and_eq_false_iff, Bool.or_eq_true, Bool.or_eq_false_iff, Bool.not_eq_true', Bool.not_eq_false', beq_iff_eq, beq_eq_false_iff_ne, ne_eq, bne_iff_ne, bne_eq_false_iff_eq, decide_eq_true_eq, decide_eq_false_iff_not, Decidable.not_not] at h; first | done | (exfalso; omega; done) | skip) | skip))
    all_goals try ((first | refine WK.ret ⟨.inr rfl, Fin.of (q' := ?_) (A2 := ?_) (k1 := ?_) (k2 := ?_) ?_ ?_ ?_ ?_ ?_⟩ | refine ⟨.inl rfl, Fin.of (q' := ?_) (A2 := ?_) (k1 := ?_) (k2 := ?_) ?_ ?_ ?_ ?_ ?_⟩ | refine ⟨.inl trivial, Fin.of (q' := ?_) (A2 := ?_) (k1 := ?_) (k2 := ?_) ?_ ?_ ?_ ?_ ?_⟩); rotate_left 4; (focus (first | rfl | (simp only [go_sem, show Try.f14.results.toList = [] from rfl, reduceIte] <;> rfl))); (focus (first | rfl | (simp only [go_sem, reduceIte] <;> rfl))); (focus rfl); rotate_left 1; (focus (first | rfl | skip)); all_goals try with_reducible rfl)
    all_goals rfl
  · rw [if_neg (by decide), if_pos rfl]
    refine SCall.of_body' (TT := TT) (fun k => decide (k < 1)) [false, false] ttok Try.func14 rfl (Nat.le_of_ble_eq_true rfl) rfl fun fx hfx => WK.top ?_
    simp only [impl, imp, argT, List.append_nil, List.map_nil, List.map_cons, List.nil_append, List.cons_append, List.length_cons, List.length_nil, show Try.f14.ntmps = 54 from rfl, Nat.zero_add, Nat.reduceAdd]
    repeat' (first
      | refine WK.seq ?_
      | refine WK.reg ?_
      | refine IL.nil ?_
      | refine WK.skip ?_
      | refine WK.block ?_
      | refine WK.exit_here ?_
      | refine WK.exit_out1 (by decide) ?_
      | refine WK.exit_out2 (by decide) (by decide) ?_
      | (with_reducible refine IL.wr ?_ ?_; (focus (first | exact wrap_i64 (by omega) (by omega) | exact wrap_u64 (by omega) (by omega) | exact wrap_u32 (by omega) (by omega) | exact wrap_u16 (by omega) (by omega) | exact wrap_u8 (by omega) (by omega))))
      | (refine IL.stepg (σ' := ?_) ttok (by first | exact .inl rfl | (refine Gok.mk2 (b := ?_) rfl ?_ ?_; rotate_left 1; (focus rfl); (focus (with_reducible rfl)))) (fun K hK => ?_) ?_; rotate_left 1; (focus (simp only [go_sem, reduceIte, mk, List.nil_append]; first | exact hK | (and_intros <;> first | exact hK | omega | assumption | rfl | decide))))
      | (refine IL.no (σ' := ?_) (by first | (refine Gno.mkT (b := ?_) rfl ?_ ?_; rotate_left 1; (focus rfl); (focus (with_reducible rfl))) | (refine Gno.mkF (b := ?_) rfl ?_ ?_; rotate_left 1; (focus rfl); (focus (with_reducible rfl))) | exact Gno.mkU rfl rfl) (fun K hK => ?_) ?_; rotate_left 1; (focus (simp only [go_sem, reduceIte]; exact hK)))
      | (refine IL.callS (f := 28) (xs := ?_) (A := ?_) (A' := ?_) (rr := ?_) (σ' := ?_) (bs := ?_) (ks := ?_) (sets := ?_) (pushes := ?_) ttok ent28 [.own, .bor] true ?_ ?_ ?_ ?_ ?_ ?_ ?_ ?_ ?_ (fun K hK => ?_) ?_; rotate_left 9; (focus (first | exact .inl rfl | (refine Gok.mk2 (b := ?_) rfl ?_ ?_; rotate_left 1; (focus rfl); (focus (with_reducible rfl))))); (focus rfl); (focus (first | rfl | (simp only [go_sem, reduceIte, mk, List.nil_append] <;> rfl))); (focus (refine wnum_call _ _ ?_ ?_ <;> first | omega | assumption | decide | simp)); (focus rfl); (focus rfl); (focus (first | rfl | simp only [go_sem])); (focus (first | rfl | (simp only [go_sem, reduceIte, mk, List.nil_append] <;> rfl))); (focus simp); (focus (simp only [go_sem, reduceIte, mk, List.nil_append]; exact hK)))
      | (refine IL.callS (f := 29) (xs := ?_) (A := ?_) (A' := ?_) (rr := ?_) (σ' := ?_) (bs := ?_) (ks := ?_) (sets := ?_) (pushes := ?_) ttok ent29 [.own, .bor] true ?_ ?_ ?_ ?_ ?_ ?_ ?_ ?_ ?_ (fun K hK => ?_) ?_; rotate_left 9; (focus (first | exact .inl rfl | (refine Gok.mk2 (b := ?_) rfl ?_ ?_; rotate_left 1; (focus rfl); (focus (with_reducible rfl))))); (focus rfl); (focus (first | rfl | (simp only [go_sem, reduceIte, mk, List.nil_append] <;> rfl))); (focus (refine wtext_call _ _ ?_ ?_ <;> first | omega | assumption | decide | simp)); (focus rfl); (focus rfl); (focus (first | rfl | simp only [go_sem])); (focus (first | rfl | (simp only [go_sem, reduceIte, mk, List.nil_append] <;> rfl))); (focus simp); (focus (simp only [go_sem, reduceIte, mk, List.nil_append]; exact hK)))
      | (refine IL.callS (f := 30) (xs := ?_) (A := ?_) (A' := ?_) (rr := ?_) (σ' := ?_) (bs := ?_) (ks := ?_) (sets := ?_) (pushes := ?_) ttok ent30 [.own, .bor] true ?_ ?_ ?_ ?_ ?_ ?_ ?_ ?_ ?_ (fun K hK => ?_) ?_; rotate_left 9; (focus (first | exact .inl rfl | (refine Gok.mk2 (b := ?_) rfl ?_ ?_; rotate_left 1; (focus rfl); (focus (with_reducible rfl))))); (focus rfl); (focus (first | rfl | (simp only [go_sem, reduceIte, mk, List.nil_append] <;> rfl))); (focus (refine putW_call _ _ ?_ ?_ ?_ _ ?_ <;> first | omega | assumption | decide | simp)); (focus rfl); (focus rfl); (focus (first | rfl | simp only [go_sem])); (focus (first | rfl | (simp only [go_sem, reduceIte, mk, List.nil_append] <;> rfl))); (focus simp); (focus (simp only [go_sem, reduceIte, mk, List.nil_append]; exact hK)))
      | ((first | (refine IL.askg (b := ?_) (d := ?_) ?_ ?_ (fun h => ?_) (fun h => ?_); rotate_left 2; (focus rfl); (focus rfl)) | (refine IL.askp (b := ?_) (d := ?_) ?_ ?_ (fun h => ?_) (fun h => ?_); rotate_left 2; (focus rfl); (focus rfl))); (fail_if_success (focus (simp only [reduceCtorEq] at h))); all_goals first | (simp only [Bool.and_eq_true, Bool.and_eq_false_iff, Bool.or_eq_true, Bool.or_eq_false_iff, Bool.not_eq_true', Bool.not_eq_false', beq_iff_eq, beq_eq_false_iff_ne, ne_eq, bne_iff_ne, bne_eq_false_iff_eq, decide_eq_true_eq, decide_eq_false_iff_not, Decidable.not_not] at h; first | done | (exfalso; omega; done) | skip) | skip)
      | (refine WK.cond (b := ?_) ?_ (fun h => ?_) (fun h => ?_); rotate_left 1; (focus rfl); all_goals first | (simp only [reduceCtorEq] at h; done) | (simp only [Bool.and_eq_true, Bool.and_eq_false_iff, Bool.or_eq_true, Bool.or_eq_false_iff, Bool.not_eq_true', Bool.not_eq_false', beq_iff_eq, beq_eq_false_iff_ne, ne_eq, bne_iff_ne, bne_eq_false_iff_eq, decide_eq_true_eq, decide_eq_false_iff_not, Decidable.not_not] at h; first | done | (exfalso; omega; done) | skip) | skip))
    all_goals try ((first | refine WK.ret ⟨.inr rfl, Fin.of (q' := ?_) (A2 := ?_) (k1 := ?_) (k2 := ?_) ?_ ?_ ?_ ?_ ?_⟩ | refine ⟨.inl rfl, Fin.of (q' := ?_) (A2 := ?_) (k1 := ?_) (k2 := ?_) ?_ ?_ ?_ ?_ ?_⟩ | refine ⟨.inl trivial, Fin.of (q' := ?_) (A2 := ?_) (k1 := ?_) (k2 := ?_) ?_ ?_ ?_ ?_ ?_⟩); rotate_left 4; (focus (first | rfl | (simp only [go_sem, show Try.f14.results.toList = [] from rfl, reduceIte] <;> rfl))); (focus (first | rfl | (simp only [go_sem, reduceIte] <;> rfl))); (focus rfl); rotate_left 1; (focus (first | rfl | skip)); all_goals try with_reducible rfl)
    all_goals rfl
  · rw [if_neg (by decide), if_neg (by decide), if_pos rfl]
    refine SCall.of_body' (TT := TT) (fun k => decide (k < 1)) [false, false] ttok Try.func14 rfl (Nat.le_of_ble_eq_true rfl) rfl fun fx hfx => WK.top ?_
    simp only [impl, imp, argT, List.append_nil, List.map_nil, List.map_cons, List.nil_append, List.cons_append, List.length_cons, List.length_nil, show Try.f14.ntmps = 54 from rfl, Nat.zero_add, Nat.reduceAdd]
    repeat' (first
      | refine WK.seq ?_
      | refine WK.reg ?_
      | refine IL.nil ?_
      | refine WK.skip ?_
      | refine WK.block ?_
      | refine WK.exit_here ?_
      | refine WK.exit_out1 (by decide) ?_
      | refine WK.exit_out2 (by decide) (by decide) ?_
      | (with_reducible refine IL.wr ?_ ?_; (focus (first | exact wrap_i64 (by omega) (by omega) | exact wrap_u64 (by omega) (by omega) | exact wrap_u32 (by omega) (by omega) | exact wrap_u16 (by omega) (by omega) | exact wrap_u8 (by omega) (by omega))))
      | (refine IL.stepg (σ' := ?_) ttok (by first | exact .inl rfl | (refine Gok.mk2 (b := ?_) rfl ?_ ?_; rotate_left 1; (focus rfl); (focus (with_reducible rfl)))) (fun K hK => ?_) ?_; rotate_left 1; (focus (simp only [go_sem, reduceIte, mk, mr, mn, mm, List.nil_append]; first | exact hK | (and_intros <;> first | exact hK | omega | assumption | rfl | decide))))
      | (refine IL.no (σ' := ?_) (by first | (refine Gno.mkT (b := ?_) rfl ?_ ?_; rotate_left 1; (focus rfl); (focus (with_reducible rfl))) | (refine Gno.mkF (b := ?_) rfl ?_ ?_; rotate_left 1; (focus rfl); (focus (with_reducible rfl))) | exact Gno.mkU rfl rfl) (fun K hK => ?_) ?_; rotate_left 1; (focus (simp only [go_sem, reduceIte]; exact hK)))
      | (refine IL.callS (f := 28) (xs := ?_) (A := ?_) (A' := ?_) (rr := ?_) (σ' := ?_) (bs := ?_) (ks := ?_) (sets := ?_) (pushes := ?_) ttok ent28 [.own, .bor] true ?_ ?_ ?_ ?_ ?_ ?_ ?_ ?_ ?_ (fun K hK => ?_) ?_; rotate_left 9; (focus (first | exact .inl rfl | (refine Gok.mk2 (b := ?_) rfl ?_ ?_; rotate_left 1; (focus rfl); (focus (with_reducible rfl))))); (focus rfl); (focus (first | rfl | (simp only [go_sem, reduceIte, mk, mr, mn, mm, List.nil_append] <;> rfl))); (focus (refine wnum_call _ _ ?_ ?_ <;> first | omega | assumption | decide | simp)); (focus rfl); (focus rfl); (focus (first | rfl | simp only [go_sem])); (focus (first | rfl | (simp only [go_sem, reduceIte, mk, mr, mn, mm, List.nil_append] <;> rfl))); (focus simp); (focus (simp only [go_sem, reduceIte, mk, mr, mn, mm, List.nil_append]; exact hK)))
      | (refine IL.callS (f := 29) (xs := ?_) (A := ?_) (A' := ?_) (rr := ?_) (σ' := ?_) (bs := ?_) (ks := ?_) (sets := ?_) (pushes := ?_) ttok ent29 [.own, .bor] true ?_ ?_ ?_ ?_ ?_ ?_ ?_ ?_ ?_ (fun K hK => ?_) ?_; rotate_left 9; (focus (first | exact .inl rfl | (refine Gok.mk2 (b := ?_) rfl ?_ ?_; rotate_left 1; (focus rfl); (focus (with_reducible rfl))))); (focus rfl); (focus (first | rfl | (simp only [go_sem, reduceIte, mk, mr, mn, mm, List.nil_append] <;> rfl))); (focus (refine wtext_call _ _ ?_ ?_ <;> first | omega | assumption | decide | simp)); (focus rfl); (focus rfl); (focus (first | rfl | simp only [go_sem])); (focus (first | rfl | (simp only [go_sem, reduceIte, mk, mr, mn, mm, List.nil_append] <;> rfl))); (focus simp); (focus (simp only [go_sem, reduceIte, mk, mr, mn, mm, List.nil_append]; exact hK)))
      | (refine IL.callS (f := 30) (xs := ?_) (A := ?_) (A' := ?_) (rr := ?_) (σ' := ?_) (bs := ?_) (ks := ?_) (sets := ?_) (pushes := ?_) ttok ent30 [.own, .bor] true ?_ ?_ ?_ ?_ ?_ ?_ ?_ ?_ ?_ (fun K hK => ?_) ?_; rotate_left 9; (focus (first | exact .inl rfl | (refine Gok.mk2 (b := ?_) rfl ?_ ?_; rotate_left 1; (focus rfl); (focus (with_reducible rfl))))); (focus rfl); (focus (first | rfl | (simp only [go_sem, reduceIte, mk, mr, mn, mm, List.nil_append] <;> rfl))); (focus (refine putW_call _ _ ?_ ?_ ?_ _ ?_ <;> first | omega | assumption | decide | simp)); (focus rfl); (focus rfl); (focus (first | rfl | simp only [go_sem])); (focus (first | rfl | (simp only [go_sem, reduceIte, mk, mr, mn, mm, List.nil_append] <;> rfl))); (focus simp); (focus (simp only [go_sem, reduceIte, mk, mr, mn, mm, List.nil_append]; exact hK)))
      | ((first | (refine IL.askg (b := ?_) (d := ?_) ?_ ?_ (fun h => ?_) (fun h => ?_); rotate_left 2; (focus rfl); (focus rfl)) | (refine IL.askp (b := ?_) (d := ?_) ?_ ?_ (fun h => ?_) (fun h => ?_); rotate_left 2; (focus rfl); (focus rfl))); (fail_if_success (focus (simp only [reduceCtorEq] at h))); all_goals first | (simp only [Bool.and_eq_true, Bool.and_eq_false_iff, Bool.or_eq_true, Bool.or_eq_false_iff, Bool.not_eq_true', Bool.not_eq_false', beq_iff_eq, beq_eq_false_iff_ne, ne_eq, bne_iff_ne, bne_eq_false_iff_eq, decide_eq_true_eq, decide_eq_false_iff_not, Decidable.not_not] at h; first | done | (exfalso; omega; done) | skip) | skip)
      | (refine WK.cond (b := ?_) ?_ (fun h => ?_) (fun h => ?_); rotate_left 1; (focus rfl); all_goals first | (simp only [reduceCtorEq] at h; done) | (simp only [Bool.and_eq_true, Bool.and_eq_false_iff, Bool.or_eq_true, Bool.or_eq_false_iff, Bool.not_eq_true', Bool.not_eq_false', beq_iff_eq, beq_eq_false_iff_ne, ne_eq, bne_iff_ne, bne_eq_false_iff_eq, decide_eq_true_eq, decide_eq_false_iff_not, Decidable.not_not] at h; first | done | (exfalso; omega; done) | skip) | skip))
    all_goals try ((first | refine WK.ret ⟨.inr rfl, Fin.of (q' := ?_) (A2 := ?_) (k1 := ?_) (k2 := ?_) ?_ ?_ ?_ ?_ ?_⟩ | refine ⟨.inl rfl, Fin.of (q' := ?_) (A2 := ?_) (k1 := ?_) (k2 := ?_) ?_ ?_ ?_ ?_ ?_⟩ | refine ⟨.inl trivial, Fin.of (q' := ?_) (A2 := ?_) (k1 := ?_) (k2 := ?_) ?_ ?_ ?_ ?_ ?_⟩); rotate_left 4; (focus (first | rfl | (simp only [go_sem, show Try.f14.results.toList = [] from rfl, reduceIte] <;> rfl))); (focus (first | rfl | (simp only [go_sem, reduceIte] <;> rfl))); (focus rfl); rotate_left 1; (focus (first | rfl | skip)); all_goals try with_reducible rfl)
    all_goals rfl
  · rw [if_neg hk4.1, if_neg hk4.2.1, if_neg hk4.2.2]
    refine SCall.of_body' (TT := TT) (fun k => decide (k < 1)) [false, false] ttok Try.func14 rfl (Nat.le_of_ble_eq_true rfl) rfl fun fx hfx => WK.top ?_
    simp only [impl, imp, argT, List.append_nil, List.map_nil, List.map_cons, List.nil_append, List.cons_append, List.length_cons, List.length_nil, show Try.f14.ntmps = 54 from rfl, Nat.zero_add, Nat.reduceAdd]
    repeat' (first
      | refine WK.seq ?_
      | refine WK.reg ?_
      | refine IL.nil ?_
      | refine WK.skip ?_
      | refine WK.block ?_
      | refine WK.exit_here ?_
      | refine WK.exit_out1 (by decide) ?_
      | refine WK.exit_out2 (by decide) (by decide) ?_
      | (with_reducible refine IL.wr ?_ ?_; (focus (first | exact wrap_i64 (by omega) (by omega) | exact wrap_u64 (by omega) (by omega) | exact wrap_u32 (by omega) (by omega) | exact wrap_u16 (by omega) (by omega) | exact wrap_u8 (by omega) (by omega))))
      | (refine IL.stepg (σ' := ?_) ttok (by first | exact .inl rfl | (refine Gok.mk2 (b := ?_) rfl ?_ ?_; rotate_left 1; (focus rfl); (focus (with_reducible rfl)))) (fun K hK => ?_) ?_; rotate_left 1; (focus (simp only [go_sem, reduceIte, mk, mq, List.nil_append]; first | exact hK | (and_intros <;> first | exact hK | omega | assumption | rfl | decide))))
      | (refine IL.no (σ' := ?_) (by first | (refine Gno.mkT (b := ?_) rfl ?_ ?_; rotate_left 1; (focus rfl); (focus (with_reducible rfl))) | (refine Gno.mkF (b := ?_) rfl ?_ ?_; rotate_left 1; (focus rfl); (focus (with_reducible rfl))) | exact Gno.mkU rfl rfl) (fun K hK => ?_) ?_; rotate_left 1; (focus (simp only [go_sem, reduceIte]; exact hK)))
      | (refine IL.callS (f := 28) (xs := ?_) (A := ?_) (A' := ?_) (rr := ?_) (σ' := ?_) (bs := ?_) (ks := ?_) (sets := ?_) (pushes := ?_) ttok ent28 [.own, .bor] true ?_ ?_ ?_ ?_ ?_ ?_ ?_ ?_ ?_ (fun K hK => ?_) ?_; rotate_left 9; (focus (first | exact .inl rfl | (refine Gok.mk2 (b := ?_) rfl ?_ ?_; rotate_left 1; (focus rfl); (focus (with_reducible rfl))))); (focus rfl); (focus (first | rfl | (simp only [go_sem, reduceIte, mk, mq, List.nil_append] <;> rfl))); (focus (refine wnum_call _ _ ?_ ?_ <;> first | omega | assumption | decide | simp)); (focus rfl); (focus rfl); (focus (first | rfl | simp only [go_sem])); (focus (first | rfl | (simp only [go_sem, reduceIte, mk, mq, List.nil_append] <;> rfl))); (focus simp); (focus (simp only [go_sem, reduceIte, mk, mq, List.nil_append]; exact hK)))
      | (refine IL.callS (f := 29) (xs := ?_) (A := ?_) (A' := ?_) (rr := ?_) (σ' := ?_) (bs := ?_) (ks := ?_) (sets := ?_) (pushes := ?_) ttok ent29 [.own, .bor] true ?_ ?_ ?_ ?_ ?_ ?_ ?_ ?_ ?_ (fun K hK => ?_) ?_; rotate_left 9; (focus (first | exact .inl rfl | (refine Gok.mk2 (b := ?_) rfl ?_ ?_; rotate_left 1; (focus rfl); (focus (with_reducible rfl))))); (focus rfl); (focus (first | rfl | (simp only [go_sem, reduceIte, mk, mq, List.nil_append] <;> rfl))); (focus (refine wtext_call _ _ ?_ ?_ <;> first | omega | assumption | decide | simp)); (focus rfl); (focus rfl); (focus (first | rfl | simp only [go_sem])); (focus (first | rfl | (simp only [go_sem, reduceIte, mk, mq, List.nil_append] <;> rfl))); (focus simp); (focus (simp only [go_sem, reduceIte, mk, mq, List.nil_append]; exact hK)))
      | (refine IL.callS (f := 30) (xs := ?_) (A := ?_) (A' := ?_) (rr := ?_) (σ' := ?_) (bs := ?_) (ks := ?_) (sets := ?_) (pushes := ?_) ttok ent30 [.own, .bor] true ?_ ?_ ?_ ?_ ?_ ?_ ?_ ?_ ?_ (fun K hK => ?_) ?_; rotate_left 9; (focus (first | exact .inl rfl | (refine Gok.mk2 (b := ?_) rfl ?_ ?_; rotate_left 1; (focus rfl); (focus (with_reducible rfl))))); (focus rfl); (focus (first | rfl | (simp only [go_sem, reduceIte, mk, mq, List.nil_append] <;> rfl))); (focus (refine putW_call _ _ ?_ ?_ ?_ _ ?_ <;> first | omega | assumption | decide | simp)); (focus rfl); (focus rfl); (focus (first | rfl | simp only [go_sem])); (focus (first | rfl | (simp only [go_sem, reduceIte, mk, mq, List.nil_append] <;> rfl))); (focus simp); (focus (simp only [go_sem, reduceIte, mk, mq, List.nil_append]; exact hK)))
      | ((first | (refine IL.askg (b := ?_) (d := ?_) ?_ ?_ (fun h => ?_) (fun h => ?_); rotate_left 2; (focus rfl); (focus rfl)) | (refine IL.askp (b := ?_) (d := ?_) ?_ ?_ (fun h => ?_) (fun h => ?_); rotate_left 2; (focus rfl); (focus rfl))); (fail_if_success (focus (simp only [reduceCtorEq] at h))); all_goals first | (simp only [Bool.and_eq_true, Bool.and_eq_false_iff, Bool.or_eq_true, Bool.or_eq_false_iff, Bool.not_eq_true', Bool.not_eq_false', beq_iff_eq, beq_eq_false_iff_ne, ne_eq, bne_iff_ne, bne_eq_false_iff_eq, decide_eq_true_eq, decide_eq_false_iff_not, Decidable.not_not] at h; first | done | (exfalso; omega; done) | skip) | skip)
      | (refine WK.cond (b := ?_) ?_ (fun h => ?_) (fun h => ?_); rotate_left 1; (focus rfl); all_goals first | (simp only [reduceCtorEq] at h; done) | (simp only [Bool.and_eq_true, Bool.and_eq_false_iff, Bool.or_eq_true, Bool.or_eq_false_iff, Bool.not_eq_true', Bool.not_eq_false', beq_iff_eq, beq_eq_false_iff_ne, ne_eq, bne_iff_ne, bne_eq_false_iff_eq, decide_eq_true_eq, decide_eq_false_iff_not, Decidable.not_not] at h; first | done | (exfalso; omega; done) | skip) | skip))
    all_goals try ((first | refine WK.ret ⟨.inr rfl, Fin.of (q' := ?_) (A2 := ?_) (k1 := ?_) (k2 := ?_) ?_ ?_ ?_ ?_ ?_⟩ | refine ⟨.inl rfl, Fin.of (q' := ?_) (A2 := ?_) (k1 := ?_) (k2 := ?_) ?_ ?_ ?_ ?_ ?_⟩ | refine ⟨.inl trivial, Fin.of (q' := ?_) (A2 := ?_) (k1 := ?_) (k2 := ?_) ?_ ?_ ?_ ?_ ?_⟩); rotate_left 4; (focus (first | rfl | (simp only [go_sem, show Try.f14.results.toList = [] from rfl, reduceIte] <;> rfl))); (focus (first | rfl | (simp only [go_sem, reduceIte] <;> rfl))); (focus rfl); rotate_left 1; (focus (first | rfl | skip)); all_goals try with_reducible rfl)
    all_goals rfl
theorem anchor08 : SCall Try.prog 5 [] (.v (.bool true)) [] := by
  have hp := opPut_call 1 0 0 5 0 [104, 105] [] 0 rfl (by decide) (by decide) (by decide) (by decide) (by decide) (by decide) (by decide) (by simp)
  have e1 : opB 1 0 0 5 [104, 105] [] 0 = [1, 0, 0, 5, 2, 104, 105] := by
    unfold opB
    rw [if_pos rfl, numB_small 1 (by decide), numB_small 0 (by decide), numB_small 5 (by decide), List.length_cons, List.length_cons, List.length_nil, numB_small 2 (by decide)]; rfl
  rw [e1] at hp
  have hb := wbytes_call [1, 0, 0, 5, 2, 104, 105] (by decide)
  refine SCall.of_body' (TT := TT) (fun _ => false) [] ttok Try.func5 rfl (Nat.le_of_ble_eq_true rfl) rfl fun fx hfx => WK.top ?_
  simp only [impl, imp, argT, List.append_nil, List.map_nil, List.nil_append, show Try.f5.ntmps = 7 from rfl, Nat.zero_add, Nat.reduceAdd]
  repeat' (first
    | refine WK.seq ?_
    | refine WK.reg ?_
    | refine IL.nil ?_
    | refine WK.skip ?_
    | refine WK.block ?_
    | refine WK.exit_here ?_
    | refine WK.exit_out1 (by decide) ?_
    | refine WK.exit_out2 (by decide) (by decide) ?_
    | (with_reducible refine IL.wr ?_ ?_; (focus (first | exact wrap_i64 (by omega) (by omega) | exact wrap_u64 (by omega) (by omega) | exact wrap_u32 (by omega) (by omega) | exact wrap_u16 (by omega) (by omega) | exact wrap_u8 (by omega) (by omega))))
    | (refine IL.stepg (σ' := ?_) ttok (by first | exact .inl rfl | (refine Gok.mk2 (b := ?_) rfl ?_ ?_; rotate_left 1; (focus rfl); (focus (with_reducible rfl)))) (fun K hK => ?_) ?_; rotate_left 1; (focus (simp only [go_sem, reduceIte]; first | exact hK | (and_intros <;> first | exact hK | omega | assumption | rfl | decide))))
    | (refine IL.no (σ' := ?_) (by first | (refine Gno.mkT (b := ?_) rfl ?_ ?_; rotate_left 1; (focus rfl); (focus (with_reducible rfl))) | (refine Gno.mkF (b := ?_) rfl ?_ ?_; rotate_left 1; (focus rfl); (focus (with_reducible rfl))) | exact Gno.mkU rfl rfl) (fun K hK => ?_) ?_; rotate_left 1; (focus (simp only [go_sem, reduceIte]; exact hK)))
    | (refine IL.callS (f := 14) (xs := ?_) (A := ?_) (A' := ?_) (rr := ?_) (σ' := ?_) (bs := ?_) (ks := ?_) (sets := ?_) (pushes := ?_) ttok ent14 [.bor, .own] true ?_ ?_ ?_ ?_ ?_ ?_ ?_ ?_ ?_ (fun K hK => ?_) ?_; rotate_left 9; (focus (first | exact .inl rfl | (refine Gok.mk2 (b := ?_) rfl ?_ ?_; rotate_left 1; (focus rfl); (focus (with_reducible rfl))))); (focus rfl); (focus (first | rfl | (simp only [go_sem, reduceIte] <;> rfl))); (focus (exact hp)); (focus rfl); (focus rfl); (focus (first | rfl | simp only [go_sem])); (focus (first | rfl | (simp only [go_sem, reduceIte] <;> rfl))); (focus simp); (focus (simp only [go_sem, reduceIte]; exact hK)))
    | (refine IL.callS (f := 15) (xs := ?_) (A := ?_) (A' := ?_) (rr := ?_) (σ' := ?_) (bs := ?_) (ks := ?_) (sets := ?_) (pushes := ?_) ttok ent15 [.own] true ?_ ?_ ?_ ?_ ?_ ?_ ?_ ?_ ?_ (fun K hK => ?_) ?_; rotate_left 9; (focus (first | exact .inl rfl | (refine Gok.mk2 (b := ?_) rfl ?_ ?_; rotate_left 1; (focus rfl); (focus (with_reducible rfl))))); (focus rfl); (focus (first | rfl | (simp only [go_sem, reduceIte] <;> rfl))); (focus (exact hb)); (focus rfl); (focus rfl); (focus (first | rfl | simp only [go_sem])); (focus (first | rfl | (simp only [go_sem, reduceIte] <;> rfl))); (focus simp); (focus (simp only [go_sem, reduceIte]; exact hK)))
    | ((first | (refine IL.askg (b := ?_) (d := ?_) ?_ ?_ (fun h => ?_) (fun h => ?_); rotate_left 2; (focus rfl); (focus rfl)) | (refine IL.askp (b := ?_) (d := ?_) ?_ ?_ (fun h => ?_) (fun h => ?_); rotate_left 2; (focus rfl); (focus rfl))); (fail_if_success (focus (simp only [reduceCtorEq] at h))); all_goals first | (simp only [Bool.and_eq_true, Bool.and_eq_false_iff, Bool.or_eq_true, Bool.or_eq_false_iff, Bool.not_eq_true', Bool.not_eq_false', beq_iff_eq, beq_eq_false_iff_ne, ne_eq, bne_iff_ne, bne_eq_false_iff_eq, decide_eq_true_eq, decide_eq_false_iff_not, Decidable.not_not] at h; first | done | (exfalso; omega; done) | skip) | skip)
    | (refine WK.cond (b := ?_) ?_ (fun h => ?_) (fun h => ?_); rotate_left 1; (focus rfl); all_goals first | (simp only [reduceCtorEq] at h; done) | (simp only [Bool.and_eq_true, Bool.and_eq_false_iff, Bool.or_eq_true, Bool.or_eq_false_iff, Bool.not_eq_true', Bool.not_eq_false', beq_iff_eq, beq_eq_false_iff_ne, ne_eq, bne_iff_ne, bne_eq_false_iff_eq, decide_eq_true_eq, decide_eq_false_iff_not, Decidable.not_not] at h; first | done | (exfalso; omega; done) | skip) | skip))
  all_goals try ((first | refine WK.ret ⟨.inr rfl, Fin.of (q' := ?_) (A2 := ?_) (k1 := ?_) (k2 := ?_) ?_ ?_ ?_ ?_ ?_⟩ | refine ⟨.inl rfl, Fin.of (q' := ?_) (A2 := ?_) (k1 := ?_) (k2 := ?_) ?_ ?_ ?_ ?_ ?_⟩ | refine ⟨.inl trivial, Fin.of (q' := ?_) (A2 := ?_) (k1 := ?_) (k2 := ?_) ?_ ?_ ?_ ?_ ?_⟩); rotate_left 4; (focus (first | rfl | (simp only [go_sem, show Try.f5.results.toList = [.tmp 0] from rfl, reduceIte] <;> rfl))); (focus (first | rfl | (simp only [go_sem, reduceIte] <;> rfl))); (focus rfl); rotate_left 1; (focus (first | rfl | skip)); all_goals try with_reducible rfl)
end Go.Proofs.Ytolbmgkoifchfaa
