/- package vector and the document's: Sum, With, Join; numbers as texts. -/
import Derived.Test.YtnfcjdgmhbhecaaDoorLX7JF
import Derived.Test.YtnfcjdgmhbhecaaDoorLX7JK
import Derived.Test.YtnfcjdgmhbhecaaDoorLX7N1
import Derived.Test.YtnfcjdgmhbhecaaDoorLA3
namespace Go.Proofs.YtnfcjdgmhbhecaaDoor
open Go Go.Lift
set_option maxHeartbeats 4000000
set_option linter.unusedSimpArgs false
set_option linter.unusedVariables false
attribute [local irreducible] WK IL IP IG IW DW

/-- the package variables that are read -/
abbrev GT : List (Nat × List IV) := [(0, Lib.pow10Tab.map fun z => .v (.int .u64 z))]
theorem itoaV_call (n : Int) (h0 : 0 ≤ n) (h1 : n ≤ 9223372036854775807) : SCallG GT Tryd.prog 76 [.v (.int .i64 n)] (.v (.string ⟨(Lib.decDigits n.toNat).toArray⟩)) [.v (.int .i64 n)] := by
  have h := SCallG.of_kit (G := GT) (P := Tryd.prog) (f := 76) (xs := [.int .i64 n]) (BRv.v (.string ⟨(Lib.itoa n).toArray⟩)) fun w R hG => by
    refine (Any.strconv_Itoa Tryd.laysM171 n (by omega) h1 w (GOk.tab hG (by kernel_rfl) (List.Mem.head _))).mono ?_
    rintro e w' ⟨rfl, k, os, rfl⟩
    exact ⟨rfl, fr_of_below (below_grow w k os)⟩
  rw [show Lib.itoa n = Lib.decDigits n.toNat by unfold Lib.itoa; rw [if_neg (by omega)]] at h
  exact h
theorem ifu_call (u : Nat) (h : u < 18446744073709551616) : SCallG GT Tryd.prog 94 [.v (.int .u64 u), .v (.int .i64 10)] (.v (.string ⟨(Lib.decDigits u).toArray⟩)) [.v (.int .u64 u), .v (.int .i64 10)] := by
  by_cases hs : u < 100
  · exact (ifu_small u hs).toG
  · exact SCallG.of_kit (xs := [.int .u64 u, .int .i64 10]) (BRv.v _) fun w R hG => by
      refine (ifu_big u (by omega) h w (GOk.tab hG (by kernel_rfl) (List.Mem.head _))).mono ?_
      rintro e w' ⟨rfl, k, os, rfl⟩
      exact ⟨rfl, fr_of_below (below_grow w k os)⟩
theorem fu_call (u : Nat) (h : u < 18446744073709551616) : SCallG GT Tryd.prog 77 [.v (.int .u64 u), .v (.int .i64 10)] (.v (.string ⟨(Lib.decDigits u).toArray⟩)) [.v (.int .u64 u), .v (.int .i64 10)] := by
  refine SCallG.of_body' (G := GT) (TT := TT) (fun _ => false) [false, false] ttok Tryd.func77 rfl (Nat.le_of_ble_eq_true rfl) rfl fun fx hfx hgf => WK.top ?_
  simp only [impl, imp, argT, List.append_nil, List.map_nil, List.nil_append, show Tryd.f77.ntmps = 8 from rfl, Nat.zero_add, Nat.reduceAdd]
  repeat' (first | refine WK.seq ?_ | refine WK.reg ?_ | refine IL.nil ?_ | refine WK.skip ?_ | refine WK.block ?_ | refine WK.exit_here ?_ | refine WK.exit_out1 (by decide) ?_ | refine WK.exit_out2 (by decide) (by decide) ?_ | (with_reducible refine IL.wr ?_ ?_; (focus (first | exact wrap_i64 (by omega) (by omega) | exact wrap_u64 (by omega) (by omega) | exact wrap_u32 (by omega) (by omega) | exact wrap_u16 (by omega) (by omega) | exact wrap_u8 (by omega) (by omega)))) | (refine IL.stepg (σ' := ?_) ttok (by first | exact .inl rfl | (refine Gok.mk2 (b := ?_) rfl ?_ ?_; rotate_left 1; (focus rfl); (focus (with_reducible rfl)))) (fun K hK => ?_) ?_; rotate_left 1; (focus (simp only [go_sem, reduceIte]; first | exact hK | (and_intros <;> first | exact hK | omega | assumption | rfl | decide)))) | (refine IL.no (σ' := ?_) (by first | (refine Gno.mkT (b := ?_) rfl ?_ ?_; rotate_left 1; (focus rfl); (focus (with_reducible rfl))) | (refine Gno.mkF (b := ?_) rfl ?_ ?_; rotate_left 1; (focus rfl); (focus (with_reducible rfl))) | exact Gno.mkU rfl rfl) (fun K hK => ?_) ?_; rotate_left 1; (focus (simp only [go_sem, reduceIte]; exact hK))) | (refine IL.callSG hgf (f := 94) (xs := ?_) (A := ?_) (A' := ?_) (rr := ?_) (σ' := ?_) (bs := ?_) (ks := ?_) (sets := ?_) (pushes := ?_) ttok ent94 [.bor, .bor] true ?_ ?_ ?_ ?_ ?_ ?_ ?_ ?_ ?_ (fun K hK => ?_) ?_; rotate_left 9; (focus (first | exact .inl rfl | (refine Gok.mk2 (b := ?_) rfl ?_ ?_; rotate_left 1; (focus rfl); (focus (with_reducible rfl))))); (focus rfl); (focus (first | rfl | (simp only [go_sem, reduceIte] <;> rfl))); (focus (exact ifu_call _ h)); (focus rfl); (focus rfl); (focus (first | rfl | simp only [go_sem])); (focus (first | rfl | (simp only [go_sem, reduceIte] <;> rfl))); (focus simp); (focus (simp only [go_sem, reduceIte]; exact hK))) | ((first | ((first | (refine IL.askg (b := ?_) (d := ?_) ?_ ?_ (fun h => ?_) (fun h => ?_); rotate_left 2; (focus rfl); (focus rfl)) | (refine IL.askp (b := ?_) (d := ?_) ?_ ?_ (fun h => ?_) (fun h => ?_); rotate_left 2; (focus rfl); (focus rfl))); (fail_if_success (focus (simp only [reduceCtorEq] at h)))) | (refine WK.cond (b := ?_) ?_ (fun h => ?_) (fun h => ?_); rotate_left 1; (focus rfl))); all_goals first | (simp only [reduceCtorEq] at h; done) | (simp only [Bool.and_eq_true, Bool.and_eq_false_iff, Bool.or_eq_true, Bool.or_eq_false_iff, Bool.not_eq_true', Bool.not_eq_false', beq_iff_eq, beq_eq_false_iff_ne, ne_eq, bne_iff_ne, bne_eq_false_iff_eq, decide_eq_true_eq, decide_eq_false_iff_not, Decidable.not_not] at h; first | done | (exfalso; omega; done) | skip) | skip))
  all_goals try ((first | refine WK.ret ⟨.inr rfl, Fin.of (q' := ?_) (A2 := ?_) (k1 := ?_) (k2 := ?_) ?_ ?_ ?_ ?_ ?_⟩ | refine ⟨.inl rfl, Fin.of (q' := ?_) (A2 := ?_) (k1 := ?_) (k2 := ?_) ?_ ?_ ?_ ?_ ?_⟩ | refine ⟨.inl trivial, Fin.of (q' := ?_) (A2 := ?_) (k1 := ?_) (k2 := ?_) ?_ ?_ ?_ ?_ ?_⟩); rotate_left 4; (focus (first | rfl | (simp only [go_sem, show Tryd.f77.results.toList = [.tmp 4] from rfl, reduceIte] <;> rfl))); (focus (first | rfl | (simp only [go_sem, reduceIte] <;> rfl))); (focus rfl); rotate_left 1; (focus (first | rfl | skip)); all_goals try with_reducible rfl)
  all_goals skip
/-- how much is known -/
def sumV (l : List Ve) : Int := (l.map fun x => x.2).sum
theorem sumV_snoc (l : List Ve) (x : Ve) : sumV (l ++ [x]) = sumV l + x.2 := by unfold sumV; rw [List.map_append, List.sum_append]; simp
theorem sumV_bd : ∀ {l : List Ve}, (∀ x ∈ l, 0 ≤ x.2 ∧ x.2 ≤ 268435456) → 0 ≤ sumV l ∧ sumV l ≤ 268435456 * (l.length : Int)
  | [], _ => by simp [sumV]
  | x :: l, h => by
    have h1 := h x (by simp)
    have ih := sumV_bd (l := l) fun y hy => h y (by simp [hy])
    unfold sumV at ih ⊢
    simp only [List.map_cons, List.sum_cons, List.length_cons]
    omega
theorem sum_call (l : List Ve) (hv : Vec l) : SCall Tryd.prog 44 [.tr l.length (encs veC l)] (.v (.int .i64 (sumV l))) [.tr l.length (encs veC l)] := by
  have hlen := hv.len
  refine SCall.of_body' (TT := TT) (fun _ => false) [false] ttok Tryd.func44 rfl (Nat.le_of_ble_eq_true rfl) rfl fun fx hfx => WK.top ?_
  simp only [impl, imp, argT, List.append_nil, List.map_nil, List.nil_append, show Tryd.f44.ntmps = 19 from rfl, Nat.zero_add, Nat.reduceAdd]
  repeat' (first | refine WK.seq ?_ | refine WK.reg ?_ | refine IL.nil ?_ | refine WK.skip ?_ | refine WK.block ?_ | refine WK.exit_here ?_ | refine WK.exit_out1 (by decide) ?_ | refine WK.exit_out2 (by decide) (by decide) ?_ | (with_reducible refine IL.wr ?_ ?_; (focus (first | exact wrap_i64 (by omega) (by omega) | exact wrap_u64 (by omega) (by omega) | exact wrap_u32 (by omega) (by omega) | exact wrap_u16 (by omega) (by omega) | exact wrap_u8 (by omega) (by omega)))) | (refine IL.stepg (σ' := ?_) ttok (by first | exact .inl rfl | (refine Gok.mk2 (b := ?_) rfl ?_ ?_; rotate_left 1; (focus rfl); (focus (with_reducible rfl)))) (fun K hK => ?_) ?_; rotate_left 1; (focus (simp only [go_sem, reduceIte]; first | exact hK | (and_intros <;> first | exact hK | omega | assumption | rfl | decide)))) | (refine IL.no (σ' := ?_) (by first | (refine Gno.mkT (b := ?_) rfl ?_ ?_; rotate_left 1; (focus rfl); (focus (with_reducible rfl))) | (refine Gno.mkF (b := ?_) rfl ?_ ?_; rotate_left 1; (focus rfl); (focus (with_reducible rfl))) | exact Gno.mkU rfl rfl) (fun K hK => ?_) ?_; rotate_left 1; (focus (simp only [go_sem, reduceIte]; exact hK))) | ((first | ((first | (refine IL.askg (b := ?_) (d := ?_) ?_ ?_ (fun h => ?_) (fun h => ?_); rotate_left 2; (focus rfl); (focus rfl)) | (refine IL.askp (b := ?_) (d := ?_) ?_ ?_ (fun h => ?_) (fun h => ?_); rotate_left 2; (focus rfl); (focus rfl))); (fail_if_success (focus (simp only [reduceCtorEq] at h)))) | (refine WK.cond (b := ?_) ?_ (fun h => ?_) (fun h => ?_); rotate_left 1; (focus rfl))); all_goals first | (simp only [reduceCtorEq] at h; done) | (simp only [Bool.and_eq_true, Bool.and_eq_false_iff, Bool.or_eq_true, Bool.or_eq_false_iff, Bool.not_eq_true', Bool.not_eq_false', beq_iff_eq, beq_eq_false_iff_ne, ne_eq, bne_iff_ne, bne_eq_false_iff_eq, decide_eq_true_eq, decide_eq_false_iff_not, Decidable.not_not] at h; first | done | (exfalso; omega; done) | skip) | skip))
  refine WK.forS l.length (fun k => True) (fun k => ⟨19, [(3, .v (.int .i64 (sumV (l.take k)))), (6, .tr l.length (encs veC l)), (7, .v (.int .i64 l.length)), (8, .v (.int .i64 k))], []⟩) ⟨trivial, ?_⟩ (fun k hk ho => ?_) (fun ho => ?_)
  · rw [List.take_zero, show sumV [] = 0 from rfl]
    (refine Weak.renS [] hfx rfl ?_ ?_ rfl <;> (simp only [go_sem, reduceIte, exists_eq_left', exists_eq_left, Blk.mk.injEq] <;> (try and_intros) <;> first | rfl | omega))
  · have hx : l[k]? = some l[k] := List.getElem?_eq_getElem hk
    have hle : k * 2 + 2 ≤ l.length * 2 := by omega
    have hat : ((encs veC l).drop (k * 2)).take 2 = [.v (.int .u16 l[k].1), .v (.int .u32 l[k].2)] := encs_at veC_length hx
    have hne : encs veC l ≠ [] := encs_ne veC_length (by decide) hx
    have htk : l.take (k + 1) = l.take k ++ [l[k]] := by rw [List.take_add_one, hx]; rfl
    have hb := sumV_bd (l := l.take k) fun x hx => by have := hv.b x (List.mem_of_mem_take hx); omega
    have hxb := hv.b _ (List.getElem_mem hk)
    have hlt : (l.take k).length ≤ 65536 := by rw [List.length_take]; omega
    rw [htk, sumV_snoc]
    clear htk hx
    generalize l[k] = x at *
    generalize sumV (l.take k) = s at *
    have hb2 : 0 ≤ s ∧ s ≤ 17592186044416 := by omega
    repeat' (first | refine WK.seq ?_ | refine WK.reg ?_ | refine IL.nil ?_ | refine WK.skip ?_ | refine WK.block ?_ | refine WK.exit_here ?_ | refine WK.exit_out1 (by decide) ?_ | refine WK.exit_out2 (by decide) (by decide) ?_ | (with_reducible refine IL.wr ?_ ?_; (focus (first | exact wrap_i64 (by omega) (by omega) | exact wrap_u64 (by omega) (by omega) | exact wrap_u32 (by omega) (by omega) | exact wrap_u16 (by omega) (by omega) | exact wrap_u8 (by omega) (by omega)))) | (refine IL.stepg (σ' := ?_) ttok (by first | exact .inl rfl | (refine Gok.mk2 (b := ?_) rfl ?_ ?_; rotate_left 1; (focus rfl); (focus (with_reducible rfl)))) (fun K hK => ?_) ?_; rotate_left 1; (focus (simp only [go_sem, reduceIte, hat, hle]; first | exact hK | (and_intros <;> first | exact hK | omega | assumption | rfl | decide)))) | (refine IL.no (σ' := ?_) (by first | (refine Gno.mkT (b := ?_) rfl ?_ ?_; rotate_left 1; (focus rfl); (focus (with_reducible rfl))) | (refine Gno.mkF (b := ?_) rfl ?_ ?_; rotate_left 1; (focus rfl); (focus (with_reducible rfl))) | exact Gno.mkU rfl rfl) (fun K hK => ?_) ?_; rotate_left 1; (focus (simp only [go_sem, reduceIte]; exact hK))) | ((first | ((first | (refine IL.askg (b := ?_) (d := ?_) ?_ ?_ (fun h => ?_) (fun h => ?_); rotate_left 2; (focus rfl); (focus rfl)) | (refine IL.askp (b := ?_) (d := ?_) ?_ ?_ (fun h => ?_) (fun h => ?_); rotate_left 2; (focus rfl); (focus rfl))); (fail_if_success (focus (simp only [reduceCtorEq] at h)))) | (refine WK.cond (b := ?_) ?_ (fun h => ?_) (fun h => ?_); rotate_left 1; (focus rfl))); all_goals first | (simp only [reduceCtorEq] at h; done) | (simp only [Bool.and_eq_true, Bool.and_eq_false_iff, Bool.or_eq_true, Bool.or_eq_false_iff, Bool.not_eq_true', Bool.not_eq_false', beq_iff_eq, beq_eq_false_iff_ne, ne_eq, bne_iff_ne, bne_eq_false_iff_eq, decide_eq_true_eq, decide_eq_false_iff_not, Decidable.not_not] at h; first | done | (exfalso; omega; done) | skip) | skip))
    refine ⟨trivial, ?_⟩
    (refine Weak.renS [] hfx rfl ?_ ?_ rfl <;> (simp only [go_sem, reduceIte, exists_eq_left', exists_eq_left, Blk.mk.injEq] <;> (try and_intros) <;> first | rfl | omega))
  · rw [List.take_length]
    repeat' (first | refine WK.seq ?_ | refine WK.reg ?_ | refine IL.nil ?_ | refine WK.skip ?_ | refine WK.block ?_ | refine WK.exit_here ?_ | refine WK.exit_out1 (by decide) ?_ | refine WK.exit_out2 (by decide) (by decide) ?_ | (with_reducible refine IL.wr ?_ ?_; (focus (first | exact wrap_i64 (by omega) (by omega) | exact wrap_u64 (by omega) (by omega) | exact wrap_u32 (by omega) (by omega) | exact wrap_u16 (by omega) (by omega) | exact wrap_u8 (by omega) (by omega)))) | (refine IL.stepg (σ' := ?_) ttok (by first | exact .inl rfl | (refine Gok.mk2 (b := ?_) rfl ?_ ?_; rotate_left 1; (focus rfl); (focus (with_reducible rfl)))) (fun K hK => ?_) ?_; rotate_left 1; (focus (simp only [go_sem, reduceIte]; first | exact hK | (and_intros <;> first | exact hK | omega | assumption | rfl | decide)))) | (refine IL.no (σ' := ?_) (by first | (refine Gno.mkT (b := ?_) rfl ?_ ?_; rotate_left 1; (focus rfl); (focus (with_reducible rfl))) | (refine Gno.mkF (b := ?_) rfl ?_ ?_; rotate_left 1; (focus rfl); (focus (with_reducible rfl))) | exact Gno.mkU rfl rfl) (fun K hK => ?_) ?_; rotate_left 1; (focus (simp only [go_sem, reduceIte]; exact hK))) | ((first | ((first | (refine IL.askg (b := ?_) (d := ?_) ?_ ?_ (fun h => ?_) (fun h => ?_); rotate_left 2; (focus rfl); (focus rfl)) | (refine IL.askp (b := ?_) (d := ?_) ?_ ?_ (fun h => ?_) (fun h => ?_); rotate_left 2; (focus rfl); (focus rfl))); (fail_if_success (focus (simp only [reduceCtorEq] at h)))) | (refine WK.cond (b := ?_) ?_ (fun h => ?_) (fun h => ?_); rotate_left 1; (focus rfl))); all_goals first | (simp only [reduceCtorEq] at h; done) | (simp only [Bool.and_eq_true, Bool.and_eq_false_iff, Bool.or_eq_true, Bool.or_eq_false_iff, Bool.not_eq_true', Bool.not_eq_false', beq_iff_eq, beq_eq_false_iff_ne, ne_eq, bne_iff_ne, bne_eq_false_iff_eq, decide_eq_true_eq, decide_eq_false_iff_not, Decidable.not_not] at h; first | done | (exfalso; omega; done) | skip) | skip))
    all_goals try ((first | refine WK.ret ⟨.inr rfl, Fin.of (q' := ?_) (A2 := ?_) (k1 := ?_) (k2 := ?_) ?_ ?_ ?_ ?_ ?_⟩ | refine ⟨.inl rfl, Fin.of (q' := ?_) (A2 := ?_) (k1 := ?_) (k2 := ?_) ?_ ?_ ?_ ?_ ?_⟩ | refine ⟨.inl trivial, Fin.of (q' := ?_) (A2 := ?_) (k1 := ?_) (k2 := ?_) ?_ ?_ ?_ ?_ ?_⟩); rotate_left 4; (focus (first | rfl | (simp only [go_sem, show Tryd.f44.results.toList = [.tmp 2] from rfl, reduceIte] <;> rfl))); (focus (first | rfl | (simp only [go_sem, reduceIte] <;> rfl))); (focus rfl); rotate_left 1; (focus (first | rfl | skip)); all_goals try with_reducible rfl)
    all_goals skip
theorem filt_len (l : List Ve) (p : Ve → Bool) : (l.filter p).length ≤ l.length := List.length_filter_le _ _
theorem filt_snoc (l : List Ve) (x : Ve) (p : Ve → Bool) : (l ++ [x]).filter p = l.filter p ++ (if p x = true then [x] else []) := by rw [List.filter_append]; congr 1; by_cases h : p x = true <;> simp [h]
theorem refWith_call (l : List Ve) (r q : Int) (hn : l.length ≤ 100000) :
    SCall Tryd.prog 42 [.tr l.length (encs veC l), .v (.int .u16 r), .v (.int .u32 q)] (.own 74 (withV l r q).length true (encs veC (withV l r q))) [.tr l.length (encs veC l), .v (.int .u16 r), .v (.int .u32 q)] := by
  refine SCall.of_body' (TT := TT) (fun _ => false) [false, false, false] ttok Tryd.func42 rfl (Nat.le_of_ble_eq_true rfl) rfl fun fx hfx => WK.top ?_
  simp only [impl, imp, argT, List.append_nil, List.map_nil, List.nil_append, show Tryd.f42.ntmps = 59 from rfl, Nat.zero_add, Nat.reduceAdd]
  repeat' (first | refine WK.seq ?_ | refine WK.reg ?_ | refine IL.nil ?_ | refine WK.skip ?_ | refine WK.block ?_ | refine WK.exit_here ?_ | refine WK.exit_out1 (by decide) ?_ | refine WK.exit_out2 (by decide) (by decide) ?_ | (with_reducible refine IL.wr ?_ ?_; (focus (first | exact wrap_i64 (by omega) (by omega) | exact wrap_u64 (by omega) (by omega) | exact wrap_u32 (by omega) (by omega) | exact wrap_u16 (by omega) (by omega) | exact wrap_u8 (by omega) (by omega)))) | (refine IL.stepg (σ' := ?_) ttok (by first | exact .inl rfl | (refine Gok.mk2 (b := ?_) rfl ?_ ?_; rotate_left 1; (focus rfl); (focus (with_reducible rfl)))) (fun K hK => ?_) ?_; rotate_left 1; (focus (simp only [go_sem, reduceIte]; first | exact hK | (and_intros <;> first | exact hK | omega | assumption | rfl | decide)))) | (refine IL.no (σ' := ?_) (by first | (refine Gno.mkT (b := ?_) rfl ?_ ?_; rotate_left 1; (focus rfl); (focus (with_reducible rfl))) | (refine Gno.mkF (b := ?_) rfl ?_ ?_; rotate_left 1; (focus rfl); (focus (with_reducible rfl))) | exact Gno.mkU rfl rfl) (fun K hK => ?_) ?_; rotate_left 1; (focus (simp only [go_sem, reduceIte]; exact hK))) | ((first | ((first | (refine IL.askg (b := ?_) (d := ?_) ?_ ?_ (fun h => ?_) (fun h => ?_); rotate_left 2; (focus rfl); (focus rfl)) | (refine IL.askp (b := ?_) (d := ?_) ?_ ?_ (fun h => ?_) (fun h => ?_); rotate_left 2; (focus rfl); (focus rfl))); (fail_if_success (focus (simp only [reduceCtorEq] at h)))) | (refine WK.cond (b := ?_) ?_ (fun h => ?_) (fun h => ?_); rotate_left 1; (focus rfl))); all_goals first | (simp only [reduceCtorEq] at h; done) | (simp only [Bool.and_eq_true, Bool.and_eq_false_iff, Bool.or_eq_true, Bool.or_eq_false_iff, Bool.not_eq_true', Bool.not_eq_false', beq_iff_eq, beq_eq_false_iff_ne, ne_eq, bne_iff_ne, bne_eq_false_iff_eq, decide_eq_true_eq, decide_eq_false_iff_not, Decidable.not_not] at h; first | done | (exfalso; omega; done) | skip) | skip))
  refine WK.forS l.length (fun k => True) (fun k => ⟨59, [(0, .tr l.length (encs veC l)), (1, .v (.int .u16 r)), (2, .v (.int .u32 q)), (7, .sl 0 0 0 ((l.take k).filter fun x => decide (x.1 < r)).length), (8, .v (.int .i64 k))], [some ⟨true, 74, ((l.take k).filter fun x => decide (x.1 < r)).length, true, encs veC ((l.take k).filter fun x => decide (x.1 < r)), 0, false⟩]⟩) ⟨trivial, ?_⟩ (fun k hk ho => ?_) (fun ho => ?_)
  · rw [List.take_zero, List.filter_nil]
    (refine Weak.renS [1] hfx rfl ?_ ?_ rfl <;> (simp only [go_sem, reduceIte, exists_eq_left', exists_eq_left, Blk.mk.injEq, List.length_nil, encs_nil] <;> (try and_intros) <;> first | rfl | omega))
  · have hx : l[k]? = some l[k] := List.getElem?_eq_getElem hk
    have hat1 : (encs veC l)[k * 2 + 0]? = some (.v (.int .u16 l[k].1)) := encs_get veC_length hx (by decide)
    rw [Nat.add_zero] at hat1
    have hat : ((encs veC l).drop (k * 2)).take 2 = [.v (.int .u16 l[k].1), .v (.int .u32 l[k].2)] := encs_at veC_length hx
    have hle : k * 2 + 2 ≤ l.length * 2 := by omega
    have hne : encs veC l ≠ [] := encs_ne veC_length (by decide) hx
    have htk : l.take (k + 1) = l.take k ++ [l[k]] := by rw [List.take_add_one, hx]; rfl
    have hlt := filt_len (l.take k) fun x => decide (x.1 < r)
    have hlt2 : (l.take k).length ≤ 100000 := by rw [List.length_take]; omega
    rw [htk, filt_snoc]
    clear htk hx
    generalize l[k] = x at *
    generalize (l.take k).filter (fun x => decide (x.1 < r)) = out at *
    have hsn := encs_snoc (f := veC) out x
    have htq : (encs veC out).take (out.length * 2) = encs veC out := encs_take_all veC_length out
    simp only [veC] at hsn
    repeat' (first | refine WK.seq ?_ | refine WK.reg ?_ | refine IL.nil ?_ | refine WK.skip ?_ | refine WK.block ?_ | refine WK.exit_here ?_ | refine WK.exit_out1 (by decide) ?_ | refine WK.exit_out2 (by decide) (by decide) ?_ | (with_reducible refine IL.wr ?_ ?_; (focus (first | exact wrap_i64 (by omega) (by omega) | exact wrap_u64 (by omega) (by omega) | exact wrap_u32 (by omega) (by omega) | exact wrap_u16 (by omega) (by omega) | exact wrap_u8 (by omega) (by omega)))) | (refine IL.stepg (σ' := ?_) ttok (by first | exact .inl rfl | (refine Gok.mk2 (b := ?_) rfl ?_ ?_; rotate_left 1; (focus rfl); (focus (with_reducible rfl)))) (fun K hK => ?_) ?_; rotate_left 1; (focus (simp only [go_sem, reduceIte, hat1, hat, hle]; first | exact hK | (and_intros <;> first | exact hK | omega | assumption | rfl | decide)))) | (refine IL.no (σ' := ?_) (by first | (refine Gno.mkT (b := ?_) rfl ?_ ?_; rotate_left 1; (focus rfl); (focus (with_reducible rfl))) | (refine Gno.mkF (b := ?_) rfl ?_ ?_; rotate_left 1; (focus rfl); (focus (with_reducible rfl))) | exact Gno.mkU rfl rfl) (fun K hK => ?_) ?_; rotate_left 1; (focus (simp only [go_sem, reduceIte]; exact hK))) | ((first | ((first | (refine IL.askg (b := ?_) (d := ?_) ?_ ?_ (fun h => ?_) (fun h => ?_); rotate_left 2; (focus rfl); (focus rfl)) | (refine IL.askp (b := ?_) (d := ?_) ?_ ?_ (fun h => ?_) (fun h => ?_); rotate_left 2; (focus rfl); (focus rfl))); (fail_if_success (focus (simp only [reduceCtorEq] at h)))) | (refine WK.cond (b := ?_) ?_ (fun h => ?_) (fun h => ?_); rotate_left 1; (focus rfl))); all_goals first | (simp only [reduceCtorEq] at h; done) | (simp only [Bool.and_eq_true, Bool.and_eq_false_iff, Bool.or_eq_true, Bool.or_eq_false_iff, Bool.not_eq_true', Bool.not_eq_false', beq_iff_eq, beq_eq_false_iff_ne, ne_eq, bne_iff_ne, bne_eq_false_iff_eq, decide_eq_true_eq, decide_eq_false_iff_not, Decidable.not_not] at h; first | done | (exfalso; omega; done) | skip) | skip))
    · rw [if_pos (decide_eq_true h)]
      refine ⟨trivial, ?_⟩
      (refine Weak.renS [0] hfx rfl ?_ ?_ rfl <;> (simp only [go_sem, reduceIte, exists_eq_left', exists_eq_left, Blk.mk.injEq, htq, hsn, List.length_append, List.length_cons, List.length_nil] <;> (try and_intros) <;> first | rfl | omega))
    · rw [if_neg (by simpa using h)]
      refine ⟨trivial, ?_⟩
      (refine Weak.renS [0] hfx rfl ?_ ?_ rfl <;> (simp only [go_sem, reduceIte, exists_eq_left', exists_eq_left, Blk.mk.injEq, List.append_nil] <;> (try and_intros) <;> first | rfl | omega))
  · rw [List.take_length]
    have hl1 := filt_len l fun x => decide (x.1 < r)
    have hw : withV l r q = (l.filter (fun x => decide (x.1 < r)) ++ (if 0 < q then [(r, q)] else [])) ++ l.filter (fun x => decide (r < x.1)) := by unfold withV; rw [List.append_assoc]
    rw [hw]
    generalize l.filter (fun x => decide (x.1 < r)) = o1 at *
    have hsn1 := encs_snoc (f := veC) o1 (r, q)
    have htq1 : (encs veC o1).take (o1.length * 2) = encs veC o1 := encs_take_all veC_length o1
    simp only [veC] at hsn1
    have hcase : (0 < q ∧ o1 ++ [(r, q)] = o1 ++ (if 0 < q then [(r, q)] else [])) ∨ (¬ 0 < q ∧ o1 = o1 ++ (if 0 < q then [(r, q)] else [])) := by
      by_cases hq : 0 < q
      · rw [if_pos hq]; exact .inl ⟨hq, rfl⟩
      · rw [if_neg hq]; exact .inr ⟨hq, (List.append_nil _).symm⟩
    generalize o1 ++ (if 0 < q then [(r, q)] else []) = o2 at *
    have hl2 : o2.length ≤ 100001 := by
      rcases hcase with ⟨_, rfl⟩ | ⟨_, rfl⟩
      · rw [List.length_append, List.length_cons, List.length_nil]; omega
      · omega
    rcases hcase with ⟨hq, he⟩ | ⟨hq, he⟩
    all_goals
      have hln := congrArg List.length he
      have hec := congrArg (encs veC) he
      repeat' (first | refine WK.seq ?_ | refine WK.reg ?_ | refine IL.nil ?_ | refine WK.skip ?_ | refine WK.block ?_ | refine WK.exit_here ?_ | refine WK.exit_out1 (by decide) ?_ | refine WK.exit_out2 (by decide) (by decide) ?_ | (with_reducible refine IL.wr ?_ ?_; (focus (first | exact wrap_i64 (by omega) (by omega) | exact wrap_u64 (by omega) (by omega) | exact wrap_u32 (by omega) (by omega) | exact wrap_u16 (by omega) (by omega) | exact wrap_u8 (by omega) (by omega)))) | (refine IL.stepg (σ' := ?_) ttok (by first | exact .inl rfl | (refine Gok.mk2 (b := ?_) rfl ?_ ?_; rotate_left 1; (focus rfl); (focus (with_reducible rfl)))) (fun K hK => ?_) ?_; rotate_left 1; (focus (simp only [go_sem, reduceIte]; first | exact hK | (and_intros <;> first | exact hK | omega | assumption | rfl | decide)))) | (refine IL.no (σ' := ?_) (by first | (refine Gno.mkT (b := ?_) rfl ?_ ?_; rotate_left 1; (focus rfl); (focus (with_reducible rfl))) | (refine Gno.mkF (b := ?_) rfl ?_ ?_; rotate_left 1; (focus rfl); (focus (with_reducible rfl))) | exact Gno.mkU rfl rfl) (fun K hK => ?_) ?_; rotate_left 1; (focus (simp only [go_sem, reduceIte]; exact hK))) | ((first | ((first | (refine IL.askg (b := ?_) (d := ?_) ?_ ?_ (fun h => ?_) (fun h => ?_); rotate_left 2; (focus rfl); (focus rfl)) | (refine IL.askp (b := ?_) (d := ?_) ?_ ?_ (fun h => ?_) (fun h => ?_); rotate_left 2; (focus rfl); (focus rfl))); (fail_if_success (focus (simp only [reduceCtorEq] at h)))) | (refine WK.cond (b := ?_) ?_ (fun h => ?_) (fun h => ?_); rotate_left 1; (focus rfl))); all_goals first | (simp only [reduceCtorEq] at h; done) | (simp only [Bool.and_eq_true, Bool.and_eq_false_iff, Bool.or_eq_true, Bool.or_eq_false_iff, Bool.not_eq_true', Bool.not_eq_false', beq_iff_eq, beq_eq_false_iff_ne, ne_eq, bne_iff_ne, bne_eq_false_iff_eq, decide_eq_true_eq, decide_eq_false_iff_not, Decidable.not_not] at h; first | done | (exfalso; omega; done) | skip) | skip))
      refine WK.forS l.length (fun k => True) (fun k => ⟨59, [(0, .tr l.length (encs veC l)), (1, .v (.int .u16 r)), (7, .sl 0 0 0 (o2 ++ (l.take k).filter fun x => decide (r < x.1)).length), (9, .v (.int .i64 k))], [some ⟨true, 74, (o2 ++ (l.take k).filter fun x => decide (r < x.1)).length, true, encs veC (o2 ++ (l.take k).filter fun x => decide (r < x.1)), 0, false⟩]⟩) ⟨trivial, ?_⟩ (fun k hk ho => ?_) (fun ho => ?_)
      · rw [List.take_zero, List.filter_nil, List.append_nil, ← he]
        (refine Weak.renS [0] hfx rfl ?_ ?_ rfl <;> (simp only [go_sem, reduceIte, exists_eq_left', exists_eq_left, Blk.mk.injEq, htq1, hsn1, List.length_append, List.length_cons, List.length_nil] <;> (try and_intros) <;> first | rfl | omega))
      · have hx : l[k]? = some l[k] := List.getElem?_eq_getElem hk
        have hat1 : (encs veC l)[k * 2 + 0]? = some (.v (.int .u16 l[k].1)) := encs_get veC_length hx (by decide)
        rw [Nat.add_zero] at hat1
        have hat : ((encs veC l).drop (k * 2)).take 2 = [.v (.int .u16 l[k].1), .v (.int .u32 l[k].2)] := encs_at veC_length hx
        have hle : k * 2 + 2 ≤ l.length * 2 := by omega
        have hne : encs veC l ≠ [] := encs_ne veC_length (by decide) hx
        have htk : l.take (k + 1) = l.take k ++ [l[k]] := by rw [List.take_add_one, hx]; rfl
        have hlt := filt_len (l.take k) fun x => decide (r < x.1)
        have hlt2 : (l.take k).length ≤ 100000 := by rw [List.length_take]; omega
        have hlt3 : (o2 ++ (l.take k).filter fun x => decide (r < x.1)).length ≤ 200001 := by rw [List.length_append]; omega
        rw [htk, filt_snoc, ← List.append_assoc]
        clear htk hx
        generalize l[k] = x at *
        generalize o2 ++ (l.take k).filter (fun x => decide (r < x.1)) = out at *
        have hsn := encs_snoc (f := veC) out x
        have htq : (encs veC out).take (out.length * 2) = encs veC out := encs_take_all veC_length out
        simp only [veC] at hsn
        repeat' (first | refine WK.seq ?_ | refine WK.reg ?_ | refine IL.nil ?_ | refine WK.skip ?_ | refine WK.block ?_ | refine WK.exit_here ?_ | refine WK.exit_out1 (by decide) ?_ | refine WK.exit_out2 (by decide) (by decide) ?_ | (with_reducible refine IL.wr ?_ ?_; (focus (first | exact wrap_i64 (by omega) (by omega) | exact wrap_u64 (by omega) (by omega) | exact wrap_u32 (by omega) (by omega) | exact wrap_u16 (by omega) (by omega) | exact wrap_u8 (by omega) (by omega)))) | (refine IL.stepg (σ' := ?_) ttok (by first | exact .inl rfl | (refine Gok.mk2 (b := ?_) rfl ?_ ?_; rotate_left 1; (focus rfl); (focus (with_reducible rfl)))) (fun K hK => ?_) ?_; rotate_left 1; (focus (simp only [go_sem, reduceIte, hat1, hat, hle]; first | exact hK | (and_intros <;> first | exact hK | omega | assumption | rfl | decide)))) | (refine IL.no (σ' := ?_) (by first | (refine Gno.mkT (b := ?_) rfl ?_ ?_; rotate_left 1; (focus rfl); (focus (with_reducible rfl))) | (refine Gno.mkF (b := ?_) rfl ?_ ?_; rotate_left 1; (focus rfl); (focus (with_reducible rfl))) | exact Gno.mkU rfl rfl) (fun K hK => ?_) ?_; rotate_left 1; (focus (simp only [go_sem, reduceIte]; exact hK))) | ((first | ((first | (refine IL.askg (b := ?_) (d := ?_) ?_ ?_ (fun h => ?_) (fun h => ?_); rotate_left 2; (focus rfl); (focus rfl)) | (refine IL.askp (b := ?_) (d := ?_) ?_ ?_ (fun h => ?_) (fun h => ?_); rotate_left 2; (focus rfl); (focus rfl))); (fail_if_success (focus (simp only [reduceCtorEq] at h)))) | (refine WK.cond (b := ?_) ?_ (fun h => ?_) (fun h => ?_); rotate_left 1; (focus rfl))); all_goals first | (simp only [reduceCtorEq] at h; done) | (simp only [Bool.and_eq_true, Bool.and_eq_false_iff, Bool.or_eq_true, Bool.or_eq_false_iff, Bool.not_eq_true', Bool.not_eq_false', beq_iff_eq, beq_eq_false_iff_ne, ne_eq, bne_iff_ne, bne_eq_false_iff_eq, decide_eq_true_eq, decide_eq_false_iff_not, Decidable.not_not] at h; first | done | (exfalso; omega; done) | skip) | skip))
        · rw [if_pos (decide_eq_true h)]
          refine ⟨trivial, ?_⟩
          (refine Weak.renS [0] hfx rfl ?_ ?_ rfl <;> (simp only [go_sem, reduceIte, exists_eq_left', exists_eq_left, Blk.mk.injEq, htq, hsn, List.length_append, List.length_cons, List.length_nil] <;> (try and_intros) <;> first | rfl | omega))
        · rw [if_neg (by simpa using h)]
          refine ⟨trivial, ?_⟩
          (refine Weak.renS [0] hfx rfl ?_ ?_ rfl <;> (simp only [go_sem, reduceIte, exists_eq_left', exists_eq_left, Blk.mk.injEq, List.append_nil] <;> (try and_intros) <;> first | rfl | omega))
      · rw [List.take_length]
        repeat' (first | refine WK.seq ?_ | refine WK.reg ?_ | refine IL.nil ?_ | refine WK.skip ?_ | refine WK.block ?_ | refine WK.exit_here ?_ | refine WK.exit_out1 (by decide) ?_ | refine WK.exit_out2 (by decide) (by decide) ?_ | (with_reducible refine IL.wr ?_ ?_; (focus (first | exact wrap_i64 (by omega) (by omega) | exact wrap_u64 (by omega) (by omega) | exact wrap_u32 (by omega) (by omega) | exact wrap_u16 (by omega) (by omega) | exact wrap_u8 (by omega) (by omega)))) | (refine IL.stepg (σ' := ?_) ttok (by first | exact .inl rfl | (refine Gok.mk2 (b := ?_) rfl ?_ ?_; rotate_left 1; (focus rfl); (focus (with_reducible rfl)))) (fun K hK => ?_) ?_; rotate_left 1; (focus (simp only [go_sem, reduceIte]; first | exact hK | (and_intros <;> first | exact hK | omega | assumption | rfl | decide)))) | (refine IL.no (σ' := ?_) (by first | (refine Gno.mkT (b := ?_) rfl ?_ ?_; rotate_left 1; (focus rfl); (focus (with_reducible rfl))) | (refine Gno.mkF (b := ?_) rfl ?_ ?_; rotate_left 1; (focus rfl); (focus (with_reducible rfl))) | exact Gno.mkU rfl rfl) (fun K hK => ?_) ?_; rotate_left 1; (focus (simp only [go_sem, reduceIte]; exact hK))) | ((first | ((first | (refine IL.askg (b := ?_) (d := ?_) ?_ ?_ (fun h => ?_) (fun h => ?_); rotate_left 2; (focus rfl); (focus rfl)) | (refine IL.askp (b := ?_) (d := ?_) ?_ ?_ (fun h => ?_) (fun h => ?_); rotate_left 2; (focus rfl); (focus rfl))); (fail_if_success (focus (simp only [reduceCtorEq] at h)))) | (refine WK.cond (b := ?_) ?_ (fun h => ?_) (fun h => ?_); rotate_left 1; (focus rfl))); all_goals first | (simp only [reduceCtorEq] at h; done) | (simp only [Bool.and_eq_true, Bool.and_eq_false_iff, Bool.or_eq_true, Bool.or_eq_false_iff, Bool.not_eq_true', Bool.not_eq_false', beq_iff_eq, beq_eq_false_iff_ne, ne_eq, bne_iff_ne, bne_eq_false_iff_eq, decide_eq_true_eq, decide_eq_false_iff_not, Decidable.not_not] at h; first | done | (exfalso; omega; done) | skip) | skip))
        all_goals try ((first | refine WK.ret ⟨.inr rfl, Fin.of (q' := ?_) (A2 := ?_) (k1 := ?_) (k2 := ?_) ?_ ?_ ?_ ?_ ?_⟩ | refine ⟨.inl rfl, Fin.of (q' := ?_) (A2 := ?_) (k1 := ?_) (k2 := ?_) ?_ ?_ ?_ ?_ ?_⟩ | refine ⟨.inl trivial, Fin.of (q' := ?_) (A2 := ?_) (k1 := ?_) (k2 := ?_) ?_ ?_ ?_ ?_ ?_⟩); rotate_left 4; (focus (first | rfl | (simp only [go_sem, show Tryd.f42.results.toList = [.tmp 6] from rfl, reduceIte] <;> rfl))); (focus (first | rfl | (simp only [go_sem, reduceIte] <;> rfl))); (focus rfl); rotate_left 1; (focus (first | rfl | skip)); all_goals try with_reducible rfl)
        all_goals skip
end Go.Proofs.YtnfcjdgmhbhecaaDoor
