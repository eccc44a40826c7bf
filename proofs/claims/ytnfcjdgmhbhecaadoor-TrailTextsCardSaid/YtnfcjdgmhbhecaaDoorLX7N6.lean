/- TrailTexts: its function. -/
import Derived.Test.YtnfcjdgmhbhecaaDoorLX7N2
import Derived.Test.YtnfcjdgmhbhecaaDoorLX7VA
namespace Go.Proofs.YtnfcjdgmhbhecaaDoor
open Go Go.Lift
set_option maxHeartbeats 4000000
set_option linter.unusedSimpArgs false
set_option linter.unusedVariables false
attribute [local irreducible] WK IL IP IG IW DW

/-- a way as a text -/
def showT (y : TI') : List UInt8 := showI y.e ++ [32] ++ showI y.w ++ [32] ++ showI y.lo ++ [32] ++ showI y.hi
theorem tshow_call (t : TB) (y : TI') (h : CT t y) (hb : BdT y 33554432) (hw : Unit4 y.w) : SCallG GT Tryd.prog 29 [.agg (tC t)] (.v (.string ⟨(showT y).toArray⟩)) [.agg (tC t)] := by
  have hq1 := show_call t.e.1 t.e.2 y.e h.1 hb.1
  have hq2 := show_call t.w.1 t.w.2 y.w h.2.1 (hw.bd.mono (by decide))
  have hq3 := show_call t.lo.1 t.lo.2 y.lo h.2.2.1 hb.2.1
  have hq4 := show_call t.hi.1 t.hi.2 y.hi h.2.2.2.1 hb.2.2
  have l1 := showI_le y.e (hb.1.mono (by decide))
  have l2 := showI_le y.w (hw.bd.mono (by decide))
  have l3 := showI_le y.lo (hb.2.1.mono (by decide))
  have l4 := showI_le y.hi (hb.2.2.mono (by decide))
  unfold showT
  generalize showI y.e = la at *
  generalize showI y.w = lb at *
  generalize showI y.lo = lc at *
  generalize showI y.hi = ld at *
  obtain ⟨⟨e1, e2⟩, ⟨w1, w2⟩, ⟨o1, o2⟩, ⟨g1, g2⟩, ar, st⟩ := t
  simp only at hq1 hq2 hq3 hq4
  unfold tC
  have s1 : la.length + (0 + 1) ≤ 9223372036854775807 := by omega
  have s2 : la.length + (0 + 1) + lb.length ≤ 9223372036854775807 := by omega
  have s3 : la.length + (0 + 1) + lb.length + (0 + 1) ≤ 9223372036854775807 := by omega
  have s4 : la.length + (0 + 1) + lb.length + (0 + 1) + lc.length ≤ 9223372036854775807 := by omega
  have s5 : la.length + (0 + 1) + lb.length + (0 + 1) + lc.length + (0 + 1) ≤ 9223372036854775807 := by omega
  have s6 : la.length + (0 + 1) + lb.length + (0 + 1) + lc.length + (0 + 1) + ld.length ≤ 9223372036854775807 := by omega
  have a1 := ba_append la [32]
  have a2 := ba_append (la ++ [32]) lb
  have a3 := ba_append (la ++ [32] ++ lb) [32]
  have a4 := ba_append (la ++ [32] ++ lb ++ [32]) lc
  have a5 := ba_append (la ++ [32] ++ lb ++ [32] ++ lc) [32]
  have a6 := ba_append (la ++ [32] ++ lb ++ [32] ++ lc ++ [32]) ld
  refine SCallG.of_body' (G := GT) (TT := TT) (fun _ => false) [false] ttok Tryd.func29 rfl (Nat.le_of_ble_eq_true rfl) rfl fun fx hfx hgf => WK.top ?_
  simp only [impl, imp, argT, List.append_nil, List.map_nil, List.nil_append, show Tryd.f29.ntmps = 21 from rfl, Nat.zero_add, Nat.reduceAdd]
  repeat' (first | refine WK.seq ?_ | refine WK.reg ?_ | refine IL.nil ?_ | refine WK.skip ?_ | refine WK.block ?_ | refine WK.exit_here ?_ | refine WK.exit_out1 (by decide) ?_ | refine WK.exit_out2 (by decide) (by decide) ?_ | refine WK.drawnS (id := 1) mixed [] [2, 6, 11, 16] [0, 0, 0, 1, 0, 0, 1, 2, 2, 0, 0, 2, 3, 3, 0, 0, 3, 4, 4] [0, 0, 0, 4, 1, 1, 1, 4, 4, 2, 2, 2, 4, 4, 3, 3, 3, 4, 4] (by decide +kernel) ?_ | refine DW.nil ?_ | (with_reducible refine IL.wr ?_ ?_; (focus (first | exact wrap_i64 (by omega) (by omega) | exact wrap_u64 (by omega) (by omega) | exact wrap_u32 (by omega) (by omega) | exact wrap_u16 (by omega) (by omega) | exact wrap_u8 (by omega) (by omega)))) | (with_reducible refine DW.wr ?_ ?_; (focus (first | exact wrap_i64 (by omega) (by omega) | exact wrap_u64 (by omega) (by omega) | exact wrap_u32 (by omega) (by omega) | exact wrap_u16 (by omega) (by omega) | exact wrap_u8 (by omega) (by omega)))) | (refine IL.stepg (σ' := ?_) ttok (by first | exact .inl rfl | (refine Gok.mk2 (b := ?_) rfl ?_ ?_; rotate_left 1; (focus rfl); (focus (with_reducible rfl)))) (fun K hK => ?_) ?_; rotate_left 1; (focus (simp only [go_sem, reduceIte, s1, s2, s3, s4, s5, s6, a1, a2, a3, a4, a5, a6, ba_size, List.length_cons, List.length_nil, List.length_append]; first | exact hK | (and_intros <;> first | exact hK | omega | assumption | rfl | decide)))) | (refine IL.no (σ' := ?_) (by first | (refine Gno.mkT (b := ?_) rfl ?_ ?_; rotate_left 1; (focus rfl); (focus (with_reducible rfl))) | (refine Gno.mkF (b := ?_) rfl ?_ ?_; rotate_left 1; (focus rfl); (focus (with_reducible rfl))) | exact Gno.mkU rfl rfl) (fun K hK => ?_) ?_; rotate_left 1; (focus (simp only [go_sem, reduceIte]; exact hK))) | (refine DW.rd (L := ?_) (T' := ?_) ttok rfl rfl (by decide) ?_ ?_ (fun K hK => ?_) ?_ ?_; rotate_left 2; (focus rfl); (focus (first | exact .inl rfl | (refine Gok.mk2 (b := ?_) rfl ?_ ?_; rotate_left 1; (focus rfl); (focus (with_reducible rfl))))); (focus (simp only [go_sem, reduceIte, s1, s2, s3, s4, s5, s6, a1, a2, a3, a4, a5, a6, ba_size, List.length_cons, List.length_nil, List.length_append]; first | exact hK | (and_intros <;> first | exact hK | omega | assumption | rfl | decide))); (focus (first | exact ⟨_, rfl⟩ | rfl))) | (refine DW.rdm (L := ?_) (T' := ?_) ttok rfl rfl ?_ ?_ (fun K hK => ?_) ?_ ?_; rotate_left 2; (focus rfl); (focus (first | exact .inl rfl | (refine Gok.mk2 (b := ?_) rfl ?_ ?_; rotate_left 1; (focus rfl); (focus (with_reducible rfl))))); (focus (simp only [go_sem, reduceIte, s1, s2, s3, s4, s5, s6, a1, a2, a3, a4, a5, a6, ba_size, List.length_cons, List.length_nil, List.length_append]; first | exact hK | (and_intros <;> first | exact hK | omega | assumption | rfl | decide))); (focus (first | exact ⟨_, rfl⟩ | rfl))) | (refine DW.bl (L' := ?_) (T' := ?_) ttok rfl ?_ (fun K hK => ?_) ?_ ?_ ?_; rotate_left 2; (focus (first | exact .inl rfl | (refine Gok.mk2 (b := ?_) rfl ?_ ?_; rotate_left 1; (focus rfl); (focus (with_reducible rfl))))); (focus (simp only [go_sem, reduceIte, s1, s2, s3, s4, s5, s6, a1, a2, a3, a4, a5, a6, ba_size, List.length_cons, List.length_nil, List.length_append]; first | exact hK | (and_intros <;> first | exact hK | omega | assumption | rfl | decide))); (focus (first | exact ⟨_, rfl⟩ | rfl)); (focus (first | exact .inl rfl | exact .inr (LEX.refl _ _) | exact .inr (LE.app _ _).lex | exact .inr (LEX.of (by simp only [go_sem, List.contains_cons, List.contains_nil, Nat.reduceBEq, Bool.or_false, Bool.false_or, Nat.reduceAdd, true_or, false_or, true_and]; first | done | trivial | (and_intros <;> first | exact ⟨_, rfl⟩ | trivial)))))) | (refine DW.no (L := ?_) (T' := ?_) ?_ rfl ?_ (fun K hK => ?_) ?_ ?_; rotate_left 2; (focus rfl); (focus (first | (refine Gno.mkT (b := ?_) rfl ?_ ?_; rotate_left 1; (focus rfl); (focus (with_reducible rfl))) | (refine Gno.mkF (b := ?_) rfl ?_ ?_; rotate_left 1; (focus rfl); (focus (with_reducible rfl))) | exact Gno.mkU rfl rfl)); (focus (simp only [go_sem, reduceIte]; exact hK)); (focus (first | exact ⟨_, rfl⟩ | rfl))) | (refine DW.nob (T' := ?_) rfl ?_ (fun K hK => ?_) ?_ ?_; rotate_left 1; (focus (first | (refine Gno.mkT (b := ?_) rfl ?_ ?_; rotate_left 1; (focus rfl); (focus (with_reducible rfl))) | (refine Gno.mkF (b := ?_) rfl ?_ ?_; rotate_left 1; (focus rfl); (focus (with_reducible rfl))) | exact Gno.mkU rfl rfl)); (focus (simp only [go_sem, reduceIte]; exact hK)); (focus (first | exact ⟨_, rfl⟩ | rfl))) | (refine DW.callSG hgf (f := 65) (xs := ?_) (A := ?_) (A' := ?_) (rr := ?_) (L' := ?_) (T' := ?_) (bs := ?_) (ks := ?_) (sets := ?_) (pushes := ?_) ttok ent65 [.bor] true rfl ?_ ?_ ?_ ?_ ?_ ?_ ?_ ?_ ?_ (fun K hK => ?_) ?_ ?_ ?_; rotate_left 10; (focus (first | exact .inl rfl | (refine Gok.mk2 (b := ?_) rfl ?_ ?_; rotate_left 1; (focus rfl); (focus (with_reducible rfl))))); (focus rfl); (focus (first | rfl | (simp only [go_sem, reduceIte, s1, s2, s3, s4, s5, s6, a1, a2, a3, a4, a5, a6, ba_size, List.length_cons, List.length_nil, List.length_append] <;> rfl))); (focus (first | exact hq1 | exact hq2 | exact hq3 | exact hq4)); (focus rfl); (focus rfl); (focus (first | rfl | simp only [go_sem])); (focus (first | rfl | (simp only [go_sem, reduceIte, s1, s2, s3, s4, s5, s6, a1, a2, a3, a4, a5, a6, ba_size, List.length_cons, List.length_nil, List.length_append] <;> rfl))); (focus simp); (focus (simp only [go_sem, reduceIte, s1, s2, s3, s4, s5, s6, a1, a2, a3, a4, a5, a6, ba_size, List.length_cons, List.length_nil, List.length_append]; first | exact hK | (and_intros <;> first | exact hK | omega | assumption | rfl | decide))); (focus (first | exact ⟨_, rfl⟩ | rfl)); (focus (first | exact .inl rfl | exact .inr (LEX.refl _ _) | exact .inr (LE.app _ _).lex | exact .inr (LEX.of (by simp only [go_sem, List.contains_cons, List.contains_nil, Nat.reduceBEq, Bool.or_false, Bool.false_or, Nat.reduceAdd, true_or, false_or, true_and]; first | done | trivial | (and_intros <;> first | exact ⟨_, rfl⟩ | trivial)))))) | ((first | ((first | (refine IL.askg (b := ?_) (d := ?_) ?_ ?_ (fun h => ?_) (fun h => ?_); rotate_left 2; (focus rfl); (focus rfl)) | (refine DW.askg (b := ?_) (d := ?_) ?_ ?_ (fun h => ?_) (fun h => ?_); rotate_left 2; (focus rfl); (focus rfl)) | (refine IL.askp (b := ?_) (d := ?_) ?_ ?_ (fun h => ?_) (fun h => ?_); rotate_left 2; (focus rfl); (focus rfl)) | (refine DW.askp (b := ?_) (d := ?_) ?_ ?_ (fun h => ?_) (fun h => ?_); rotate_left 2; (focus rfl); (focus rfl))); (fail_if_success (focus (simp only [reduceCtorEq] at h)))) | (refine WK.cond (b := ?_) ?_ (fun h => ?_) (fun h => ?_); rotate_left 1; (focus rfl))); all_goals first | (simp only [reduceCtorEq] at h; done) | (simp only [Bool.and_eq_true, Bool.and_eq_false_iff, Bool.or_eq_true, Bool.or_eq_false_iff, Bool.not_eq_true', Bool.not_eq_false', beq_iff_eq, beq_eq_false_iff_ne, ne_eq, bne_iff_ne, bne_eq_false_iff_eq, decide_eq_true_eq, decide_eq_false_iff_not, Decidable.not_not] at h; first | done | (exfalso; omega; done) | skip) | skip))
  all_goals try ((first | refine WK.ret ⟨.inr rfl, Fin.of (q' := ?_) (A2 := ?_) (k1 := ?_) (k2 := ?_) ?_ ?_ ?_ ?_ ?_⟩ | refine ⟨.inl rfl, Fin.of (q' := ?_) (A2 := ?_) (k1 := ?_) (k2 := ?_) ?_ ?_ ?_ ?_ ?_⟩ | refine ⟨.inl trivial, Fin.of (q' := ?_) (A2 := ?_) (k1 := ?_) (k2 := ?_) ?_ ?_ ?_ ?_ ?_⟩); rotate_left 4; (focus (first | rfl | (simp only [go_sem, show Tryd.f29.results.toList = [.tmp 2] from rfl, reduceIte] <;> rfl))); (focus (first | rfl | (simp only [go_sem, reduceIte] <;> rfl))); (focus rfl); rotate_left 1; (focus (first | rfl | skip)); all_goals try with_reducible rfl)
  all_goals skip
/-- places, as cells -/
def cC (p : CB) : List IV := [.v (.complex .f64 p.1 p.2)]
theorem cC_length (p : CB) : (cC p).length = 1 := rfl
instance : Cells cC 1 := ⟨cC_length, fun _ => rfl, fun _ => rfl⟩
/-- where a text comes to, and how it looks there, in bits -/
def zw (l : List UInt8) : CB × CB := l.foldl (fun p b => (caddB p.1 (cmulB p.2 (stepB b)), cmulB p.2 (turnB b.toNat))) ((0, 0), (4607182418800017408, 0))
theorem zw_snoc (l : List UInt8) (b : UInt8) : zw (l ++ [b]) = (caddB (zw l).1 (cmulB (zw l).2 (stepB b)), cmulB (zw l).2 (turnB b.toNat)) := by simp [zw]
theorem zw_step {p q : CB} {z w : GI} (b : UInt8) (hp : CZ p z) (hq : CZ q w) (hz : Bd z 1100000) (hw : Unit4 w) :
    cMulBits q.1 q.2 (stepB b).1 (stepB b).2 = some (cmulB q (stepB b)) ∧ cSumBits .add .f64 p.1 p.2 (cmulB q (stepB b)).1 (cmulB q (stepB b)).2 = some (caddB p (cmulB q (stepB b))) ∧ cMulBits q.1 q.2 (turnB b.toNat).1 (turnB b.toNat).2 = some (cmulB q (turnB b.toNat)) ∧
      CZ (caddB p (cmulB q (stepB b))) (gadd z (gmul w (stepZ b))) ∧ CZ (cmulB q (turnB b.toNat)) (gmul w (turnI b.toNat)) := by
  have hs := (ofT_bd b).1
  have hs : Bd (stepZ b) 4 := hs
  obtain ⟨a1, a2⟩ := hq.mul (stepB_CZ b) hw.bd hs (by decide)
  obtain ⟨b1, b2⟩ := hq.mul (turnB_CZ b.toNat) hw.bd (turnI_unit b.toNat).bd (by decide)
  obtain ⟨c1, c2⟩ := hp.add a2 (hz.add (hs.turn hw)) (by decide)
  exact ⟨a1, c1, b1, c2, b2⟩
theorem zw_take (l : List UInt8) (hl : l.length ≤ 10000) : ∀ k, k ≤ l.length → CZ (zw (l.take k)).1 (goT (beg (0, 0) (1, 0)) (l.take k)).e ∧ CZ (zw (l.take k)).2 (goT (beg (0, 0) (1, 0)) (l.take k)).w
  | 0, _ => ⟨⟨FZ_zero, FZ_zero⟩, FZ_one, FZ_zero⟩
  | k + 1, hk => by
    have hx : l[k]? = some l[k] := List.getElem?_eq_getElem (by omega)
    have ht : l.take (k + 1) = l.take k ++ [l[k]] := by rw [List.take_add_one, hx]; rfl
    obtain ⟨i1, i2⟩ := zw_take l hl k (by omega)
    have hr : RightT (beg (0, 0) (1, 0)) := beg_right _ _ (.inl rfl)
    have hR := goT_right (l.take k) _ hr
    have hB := goT_bd (l.take k) (beg (0, 0) (1, 0)) 0 hr ⟨by simp [beg, Bd], by simp [beg, Bd], by simp [beg, Bd]⟩
    have hln : (l.take k).length ≤ 10000 := by rw [List.length_take]; omega
    rw [ht, zw_snoc, goT_snoc, thenT_of _ hR]
    have := zw_step l[k] i1 i2 (hB.1.mono (by omega)) hR.1
    exact ⟨this.2.2.2.1, this.2.2.2.2⟩
def placesB (l : List UInt8) (n : Nat) : List CB := (List.range n).map fun k => (zw (l.take k)).1
theorem placesB_succ (l : List UInt8) (n : Nat) : placesB l (n + 1) = placesB l n ++ [(zw (l.take n)).1] := by
  unfold placesB; rw [List.range_succ]; simp
theorem placesB_length (l : List UInt8) (n : Nat) : (placesB l n).length = n := by simp [placesB]
theorem tplaces_call (l : List UInt8) (hl : l.length ≤ 10000) : SCall Tryd.prog 25 [.v (.string ⟨l.toArray⟩)] (.own 29 (l.length + 1) true (encs cC (placesB l (l.length + 1)))) [.v (.string ⟨l.toArray⟩)] := by
  refine SCall.of_body' (TT := TT) (fun _ => false) [false] ttok Tryd.func25 rfl (Nat.le_of_ble_eq_true rfl) rfl fun fx hfx => WK.top ?_
  simp only [impl, imp, argT, List.append_nil, List.map_nil, List.nil_append, show Tryd.f25.ntmps = 37 from rfl, Nat.zero_add, Nat.reduceAdd]
  repeat' (first | refine WK.seq ?_ | refine WK.reg ?_ | refine IL.nil ?_ | refine WK.skip ?_ | refine WK.block ?_ | refine WK.exit_here ?_ | refine WK.exit_out1 (by decide) ?_ | refine WK.exit_out2 (by decide) (by decide) ?_ | (with_reducible refine IL.wr ?_ ?_; (focus (first | exact wrap_i64 (by omega) (by omega) | exact wrap_u64 (by omega) (by omega) | exact wrap_u32 (by omega) (by omega) | exact wrap_u16 (by omega) (by omega) | exact wrap_u8 (by omega) (by omega)))) | (refine IL.stepg (σ' := ?_) ttok (by first | exact .inl rfl | (refine Gok.mk2 (b := ?_) rfl ?_ ?_; rotate_left 1; (focus rfl); (focus (with_reducible rfl)))) (fun K hK => ?_) ?_; rotate_left 1; (focus (simp only [go_sem, reduceIte]; first | exact hK | (and_intros <;> first | exact hK | omega | assumption | rfl | decide)))) | (refine IL.no (σ' := ?_) (by first | (refine Gno.mkT (b := ?_) rfl ?_ ?_; rotate_left 1; (focus rfl); (focus (with_reducible rfl))) | (refine Gno.mkF (b := ?_) rfl ?_ ?_; rotate_left 1; (focus rfl); (focus (with_reducible rfl))) | exact Gno.mkU rfl rfl) (fun K hK => ?_) ?_; rotate_left 1; (focus (simp only [go_sem, reduceIte]; exact hK))) | (refine IL.callS (f := 70) (xs := ?_) (A := ?_) (A' := ?_) (rr := ?_) (σ' := ?_) (bs := ?_) (ks := ?_) (sets := ?_) (pushes := ?_) ttok ent70 [.bor] true ?_ ?_ ?_ ?_ ?_ ?_ ?_ ?_ ?_ (fun K hK => ?_) ?_; rotate_left 9; (focus (first | exact .inl rfl | (refine Gok.mk2 (b := ?_) rfl ?_ ?_; rotate_left 1; (focus rfl); (focus (with_reducible rfl))))); (focus rfl); (focus (first | rfl | (simp only [go_sem, reduceIte] <;> rfl))); (focus (exact step_call _ _ _ _ _ hS hT)); (focus rfl); (focus rfl); (focus (first | rfl | simp only [go_sem])); (focus (first | rfl | (simp only [go_sem, reduceIte] <;> rfl))); (focus simp); (focus (simp only [go_sem, reduceIte]; exact hK))) | ((first | ((first | (refine IL.askg (b := ?_) (d := ?_) ?_ ?_ (fun h => ?_) (fun h => ?_); rotate_left 2; (focus rfl); (focus rfl)) | (refine IL.askp (b := ?_) (d := ?_) ?_ ?_ (fun h => ?_) (fun h => ?_); rotate_left 2; (focus rfl); (focus rfl))); (fail_if_success (focus (simp only [reduceCtorEq] at h)))) | (refine WK.cond (b := ?_) ?_ (fun h => ?_) (fun h => ?_); rotate_left 1; (focus rfl))); all_goals first | (simp only [reduceCtorEq] at h; done) | (simp only [Bool.and_eq_true, Bool.and_eq_false_iff, Bool.or_eq_true, Bool.or_eq_false_iff, Bool.not_eq_true', Bool.not_eq_false', beq_iff_eq, beq_eq_false_iff_ne, ne_eq, bne_iff_ne, bne_eq_false_iff_eq, decide_eq_true_eq, decide_eq_false_iff_not, Decidable.not_not] at h; first | done | (exfalso; omega; done) | skip) | skip))
  refine WK.forS l.length (fun k => True) (fun k => ⟨37, [(3, .sl 0 0 0 (k + 1)), (4, .v (.complex .f64 (zw (l.take k)).1.1 (zw (l.take k)).1.2)), (5, .v (.complex .f64 (zw (l.take k)).2.1 (zw (l.take k)).2.2)), (12, .tr l.length (bcells l)), (13, .v (.int .i64 l.length)), (14, .v (.int .i64 k))],
    [some ⟨true, 29, k + 1, true, encs cC (placesB l (k + 1)), 0, false⟩]⟩) ⟨trivial, ?_⟩ (fun k hk ho => ?_) (fun ho => ?_)
  · have e0 : encs cC (placesB l (0 + 1)) = [.v (.complex .f64 0 0)] := rfl
    rw [e0, show zw (l.take 0) = ((0, 0), (4607182418800017408, 0)) from rfl]
    (refine Weak.renS [1] hfx rfl ?_ ?_ rfl <;> (simp only [go_sem, reduceIte, exists_eq_left', exists_eq_left, Blk.mk.injEq] <;> (try and_intros) <;> first | rfl | omega))
  · have hx : l[k]? = some l[k] := List.getElem?_eq_getElem hk
    have htk : l.take (k + 1) = l.take k ++ [l[k]] := by rw [List.take_add_one, hx]; rfl
    obtain ⟨i1, i2⟩ := zw_take l hl k (by omega)
    have hr : RightT (beg (0, 0) (1, 0)) := beg_right _ _ (.inl rfl)
    have hR := goT_right (l.take k) _ hr
    have hB := goT_bd (l.take k) (beg (0, 0) (1, 0)) 0 hr ⟨by simp [beg, Bd], by simp [beg, Bd], by simp [beg, Bd]⟩
    have hln : (l.take k).length ≤ 10000 := by rw [List.length_take]; omega
    obtain ⟨m1, m2, m3, _⟩ := zw_step l[k] i1 i2 (hB.1.mono (by omega)) hR.1
    have hpl := placesB_succ l (k + 1)
    have hpl1 := placesB_length l (k + 1)
    have hg := bcells_get hx
    have hne := bcells_ne hx
    rw [hpl, htk, zw_snoc]
    clear i1 i2 hr hR hB hpl
    generalize l[k] = c at *
    generalize zw (l.take k) = zq at *
    obtain ⟨⟨z1, z2⟩, q1, q2⟩ := zq
    rcases hS : stepB c with ⟨s1, s2⟩
    rcases hT : turnB c.toNat with ⟨t1, t2⟩
    simp only at *
    rw [hS] at m1 m2
    rw [hT] at m3
    have hsn : encs cC (placesB l (k + 1)) ++ [.v (.complex .f64 (caddB (z1, z2) (cmulB (q1, q2) (s1, s2))).1 (caddB (z1, z2) (cmulB (q1, q2) (s1, s2))).2)] = encs cC (placesB l (k + 1) ++ [caddB (z1, z2) (cmulB (q1, q2) (s1, s2))]) := encs_snoc (f := cC) _ _
    have htq : (encs cC (placesB l (k + 1))).take (k + 1) = encs cC (placesB l (k + 1)) := List.take_of_length_le (by rw [encs_length cC_length, hpl1]; omega)
    rcases hM : cmulB (q1, q2) (s1, s2) with ⟨x1, x2⟩
    rw [hM] at m1 m2 hsn
    rcases hA : caddB (z1, z2) (x1, x2) with ⟨y1, y2⟩
    rw [hA] at m2 hsn
    rcases hW : cmulB (q1, q2) (t1, t2) with ⟨v1, v2⟩
    rw [hW] at m3
    simp only at m1 m2 m3 hsn
    repeat' (first | refine WK.seq ?_ | refine WK.reg ?_ | refine IL.nil ?_ | refine WK.skip ?_ | refine WK.block ?_ | refine WK.exit_here ?_ | refine WK.exit_out1 (by decide) ?_ | refine WK.exit_out2 (by decide) (by decide) ?_ | (with_reducible refine IL.wr ?_ ?_; (focus (first | exact wrap_i64 (by omega) (by omega) | exact wrap_u64 (by omega) (by omega) | exact wrap_u32 (by omega) (by omega) | exact wrap_u16 (by omega) (by omega) | exact wrap_u8 (by omega) (by omega)))) | (refine IL.stepg (σ' := ?_) ttok (by first | exact .inl rfl | (refine Gok.mk2 (b := ?_) rfl ?_ ?_; rotate_left 1; (focus rfl); (focus (with_reducible rfl)))) (fun K hK => ?_) ?_; rotate_left 1; (focus (simp only [go_sem, reduceIte, hg, m1, m2, m3, Option.map_some]; first | exact hK | (and_intros <;> first | exact hK | omega | assumption | rfl | decide)))) | (refine IL.no (σ' := ?_) (by first | (refine Gno.mkT (b := ?_) rfl ?_ ?_; rotate_left 1; (focus rfl); (focus (with_reducible rfl))) | (refine Gno.mkF (b := ?_) rfl ?_ ?_; rotate_left 1; (focus rfl); (focus (with_reducible rfl))) | exact Gno.mkU rfl rfl) (fun K hK => ?_) ?_; rotate_left 1; (focus (simp only [go_sem, reduceIte]; exact hK))) | (refine IL.callS (f := 70) (xs := ?_) (A := ?_) (A' := ?_) (rr := ?_) (σ' := ?_) (bs := ?_) (ks := ?_) (sets := ?_) (pushes := ?_) ttok ent70 [.bor] true ?_ ?_ ?_ ?_ ?_ ?_ ?_ ?_ ?_ (fun K hK => ?_) ?_; rotate_left 9; (focus (first | exact .inl rfl | (refine Gok.mk2 (b := ?_) rfl ?_ ?_; rotate_left 1; (focus rfl); (focus (with_reducible rfl))))); (focus rfl); (focus (first | rfl | (simp only [go_sem, reduceIte, hg, m1, m2, m3, Option.map_some] <;> rfl))); (focus (exact step_call _ _ _ _ _ hS hT)); (focus rfl); (focus rfl); (focus (first | rfl | simp only [go_sem])); (focus (first | rfl | (simp only [go_sem, reduceIte, hg, m1, m2, m3, Option.map_some] <;> rfl))); (focus simp); (focus (simp only [go_sem, reduceIte, hg, m1, m2, m3, Option.map_some]; exact hK))) | ((first | ((first | (refine IL.askg (b := ?_) (d := ?_) ?_ ?_ (fun h => ?_) (fun h => ?_); rotate_left 2; (focus rfl); (focus rfl)) | (refine IL.askp (b := ?_) (d := ?_) ?_ ?_ (fun h => ?_) (fun h => ?_); rotate_left 2; (focus rfl); (focus rfl))); (fail_if_success (focus (simp only [reduceCtorEq] at h)))) | (refine WK.cond (b := ?_) ?_ (fun h => ?_) (fun h => ?_); rotate_left 1; (focus rfl))); all_goals first | (simp only [reduceCtorEq] at h; done) | (simp only [Bool.and_eq_true, Bool.and_eq_false_iff, Bool.or_eq_true, Bool.or_eq_false_iff, Bool.not_eq_true', Bool.not_eq_false', beq_iff_eq, beq_eq_false_iff_ne, ne_eq, bne_iff_ne, bne_eq_false_iff_eq, decide_eq_true_eq, decide_eq_false_iff_not, Decidable.not_not] at h; first | done | (exfalso; omega; done) | skip) | skip))
    refine ⟨trivial, ?_⟩
    (refine Weak.renS [0] hfx rfl ?_ ?_ rfl <;> (simp only [go_sem, reduceIte, exists_eq_left', exists_eq_left, Blk.mk.injEq, htq, hsn] <;> (try and_intros) <;> first | rfl | omega))
  · repeat' (first | refine WK.seq ?_ | refine WK.reg ?_ | refine IL.nil ?_ | refine WK.skip ?_ | refine WK.block ?_ | refine WK.exit_here ?_ | refine WK.exit_out1 (by decide) ?_ | refine WK.exit_out2 (by decide) (by decide) ?_ | (with_reducible refine IL.wr ?_ ?_; (focus (first | exact wrap_i64 (by omega) (by omega) | exact wrap_u64 (by omega) (by omega) | exact wrap_u32 (by omega) (by omega) | exact wrap_u16 (by omega) (by omega) | exact wrap_u8 (by omega) (by omega)))) | (refine IL.stepg (σ' := ?_) ttok (by first | exact .inl rfl | (refine Gok.mk2 (b := ?_) rfl ?_ ?_; rotate_left 1; (focus rfl); (focus (with_reducible rfl)))) (fun K hK => ?_) ?_; rotate_left 1; (focus (simp only [go_sem, reduceIte]; first | exact hK | (and_intros <;> first | exact hK | omega | assumption | rfl | decide)))) | (refine IL.no (σ' := ?_) (by first | (refine Gno.mkT (b := ?_) rfl ?_ ?_; rotate_left 1; (focus rfl); (focus (with_reducible rfl))) | (refine Gno.mkF (b := ?_) rfl ?_ ?_; rotate_left 1; (focus rfl); (focus (with_reducible rfl))) | exact Gno.mkU rfl rfl) (fun K hK => ?_) ?_; rotate_left 1; (focus (simp only [go_sem, reduceIte]; exact hK))) | (refine IL.callS (f := 70) (xs := ?_) (A := ?_) (A' := ?_) (rr := ?_) (σ' := ?_) (bs := ?_) (ks := ?_) (sets := ?_) (pushes := ?_) ttok ent70 [.bor] true ?_ ?_ ?_ ?_ ?_ ?_ ?_ ?_ ?_ (fun K hK => ?_) ?_; rotate_left 9; (focus (first | exact .inl rfl | (refine Gok.mk2 (b := ?_) rfl ?_ ?_; rotate_left 1; (focus rfl); (focus (with_reducible rfl))))); (focus rfl); (focus (first | rfl | (simp only [go_sem, reduceIte] <;> rfl))); (focus (exact step_call _ _ _ _ _ hS hT)); (focus rfl); (focus rfl); (focus (first | rfl | simp only [go_sem])); (focus (first | rfl | (simp only [go_sem, reduceIte] <;> rfl))); (focus simp); (focus (simp only [go_sem, reduceIte]; exact hK))) | ((first | ((first | (refine IL.askg (b := ?_) (d := ?_) ?_ ?_ (fun h => ?_) (fun h => ?_); rotate_left 2; (focus rfl); (focus rfl)) | (refine IL.askp (b := ?_) (d := ?_) ?_ ?_ (fun h => ?_) (fun h => ?_); rotate_left 2; (focus rfl); (focus rfl))); (fail_if_success (focus (simp only [reduceCtorEq] at h)))) | (refine WK.cond (b := ?_) ?_ (fun h => ?_) (fun h => ?_); rotate_left 1; (focus rfl))); all_goals first | (simp only [reduceCtorEq] at h; done) | (simp only [Bool.and_eq_true, Bool.and_eq_false_iff, Bool.or_eq_true, Bool.or_eq_false_iff, Bool.not_eq_true', Bool.not_eq_false', beq_iff_eq, beq_eq_false_iff_ne, ne_eq, bne_iff_ne, bne_eq_false_iff_eq, decide_eq_true_eq, decide_eq_false_iff_not, Decidable.not_not] at h; first | done | (exfalso; omega; done) | skip) | skip))
    all_goals try ((first | refine WK.ret ⟨.inr rfl, Fin.of (q' := ?_) (A2 := ?_) (k1 := ?_) (k2 := ?_) ?_ ?_ ?_ ?_ ?_⟩ | refine ⟨.inl rfl, Fin.of (q' := ?_) (A2 := ?_) (k1 := ?_) (k2 := ?_) ?_ ?_ ?_ ?_ ?_⟩ | refine ⟨.inl trivial, Fin.of (q' := ?_) (A2 := ?_) (k1 := ?_) (k2 := ?_) ?_ ?_ ?_ ?_ ?_⟩); rotate_left 4; (focus (first | rfl | (simp only [go_sem, show Tryd.f25.results.toList = [.tmp 2] from rfl, reduceIte] <;> rfl))); (focus (first | rfl | (simp only [go_sem, reduceIte] <;> rfl))); (focus rfl); rotate_left 1; (focus (first | rfl | skip)); all_goals try with_reducible rfl)
end Go.Proofs.YtnfcjdgmhbhecaaDoor
